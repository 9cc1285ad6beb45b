/- The document's Try: what keys are. -/
import Derived.Test.YthcamokblkjkkaaTH
import Derived.Test.YthcamokblkjkkaaTI
namespace Go.Proofs.Ythcamokblkjkkaa
open Go Go.RowKit Go.Fol
attribute [local go_sem ↓] Go.wp_at_zero Go.wp_at_succ
attribute [local go_sem ↓] run_min2 run_max2
set_option linter.unusedVariables false
set_option linter.unusedSimpArgs false
theorem numF_len : ∀ (l : List Int) (n n' : Nat) (k : List Int), numF n l = (n', k) → k.length ≤ l.length ∧ (k.length = l.length → n' = n ∧ k = l)
  | [], n, n', k, h => by cases h; exact ⟨Nat.le_refl _, fun _ => ⟨rfl, rfl⟩⟩
  | c :: l, n, n', k, h => by
    rw [numF] at h
    split at h
    · have := numF_len l _ _ _ h
      exact ⟨by simp; omega, fun e => by simp at e; omega⟩
    · cases h
      exact ⟨Nat.le_refl _, fun _ => ⟨rfl, rfl⟩⟩
theorem numF_stop (n : Nat) (c : Int) (l : List Int) (h : numF n (c :: l) = (n, c :: l)) : digB (decide (0 < n)) c = false := by
  rw [numF] at h
  split at h
  · have := (numF_len l _ _ _ h).1
    simp at this
    omega
  · rename_i h'
    simpa using h'
theorem tryA_num {v : Bool} {reg : Int} : ∀ (l : List Int) (fst : Bool) (n n' : Nat) (k : List Int), numF n l = (n', k) → k.length < l.length → tryA v fst reg n l = tryA v false reg n' k
  | [], fst, n, n', k, h, hl => by simp at hl
  | c :: l, fst, n, n', k, h, hl => by
    rw [numF] at h
    split at h
    · rename_i hd
      have h34 : (c == 34) = false := by
        simp only [digB, Bool.and_eq_true, decide_eq_true_eq] at hd
        simp
        omega
      rw [tryA_cons, h34, if_neg (by simp), if_pos hd]
      by_cases hk : k.length < l.length
      · exact tryA_num l _ _ _ _ h hk
      · have h1 := numF_len l _ _ _ h
        obtain ⟨rfl, rfl⟩ := h1.2 (by omega)
        rfl
    · cases h
      omega
theorem cnt_facts (n m : Nat) (hn : n ≤ 9999) (hm : m ≤ 9999) (h : 0 < n ∨ 0 < m) : ∃ a d : Nat, max (n : Int) 1 = (a : Int) ∧ max (m : Int) 1 = (d : Int) ∧ IntKind.i64.wrap ((a : Int) * (d : Int)) = (a : Int) * (d : Int) ∧ wrap64 ((a : Int) * (d : Int)) = (a : Int) * (d : Int) ∧ min ((a : Int) * (d : Int)) 9999 = ((cntF n m : Nat) : Int) := by
  have e : cntF n m = min (max n 1 * max m 1) 9999 := by rw [cntF, if_pos h]
  have hle : max n 1 * max m 1 ≤ 9999 * 9999 := Nat.mul_le_mul (by omega) (by omega)
  refine ⟨max n 1, max m 1, by omega, by omega, ?_⟩
  rw [e, ← Int.natCast_mul]
  generalize max n 1 * max m 1 = x at *
  refine ⟨?_, ?_, by omega⟩
  · rw [IntKind.wrap_i64]; omega
  · unfold wrap64; omega
theorem wrap64_in (x : Int) (h0 : 0 ≤ x) (h1 : x ≤ 9223372036854775807) : wrap64 x = x := by unfold wrap64; omega
/-- What stands behind the operator, or none. -/
def TryCut (reg : Int) (n n0 i : Nat) (x : Int) (l : List Int) (rr : Int) (rc : Cm) (i2 : Nat) (op : ByteArray) : Prop :=
  (op = ⟨#[]⟩ ∧ i2 = i ∧ restT false ⟨reg, cntF n 0, ⟨#[]⟩, ⟨#[]⟩, 0, ⟨#[]⟩⟩ x (l.drop (i + 1)) = (rr, rc)) ∨ (1 ≤ op.size ∧ op.size ≤ 2 ∧ i2 ≤ n0 ∧ tryC false reg n op (l.drop i2) = (rr, rc))
end Go.Proofs.Ythcamokblkjkkaa
