/- Lines and keys: plain. -/
import Derived.Test.YtkgngcibjkkhkaaDoorStr
import Derived.Lib.Join
import Derived.Lib.SplitLaws
import Derived.Lib.IndexBytes
namespace Go.Proofs.YtkgngcibjkkhkaaDoor
open Go Go.RowKit Go.Fol
set_option linter.unusedVariables false
set_option linter.unusedSimpArgs false
/-- Cut at LFs. -/
def linesL : List UInt8 → List (List UInt8)
  | [] => [[]]
  | b :: l => if b = 10 then [] :: linesL l else match linesL l with
    | [] => [[b]]
    | x :: r => (b :: x) :: r
theorem linesL_ne : ∀ l, linesL l ≠ []
  | [] => by simp [linesL]
  | b :: l => by
    unfold linesL
    split
    · simp
    · split <;> simp
def joinL (L : List (List UInt8)) : List UInt8 := Lib.join L [10]
theorem join_lines : ∀ l, joinL (linesL l) = l
  | [] => rfl
  | b :: l => by
    have ih := join_lines l
    unfold linesL
    cases h : linesL l with
    | nil => exact absurd h (linesL_ne l)
    | cons x r =>
      rw [h] at ih
      simp only [joinL, Lib.join_cons] at ih ⊢
      split
      · rename_i hb
        subst hb
        rw [Lib.join_cons]
        simp only [Lib.joinTail, List.map_cons, List.flatten_cons, List.nil_append] at ih ⊢
        rw [List.append_assoc, ih]
        rfl
      · rw [Lib.join_cons, List.cons_append, ih]
theorem index10_eq (l : List UInt8) : Lib.index (10 :: l) [10] = 0 := by
  rw [Lib.index_one, Lib.indexByte]
  simp
theorem index10_ne {b : UInt8} (h : b ≠ 10) (l : List UInt8) : Lib.index (b :: l) [10] = if Lib.index l [10] == -1 then -1 else Lib.index l [10] + 1 := by
  rw [Lib.index_one, Lib.index_one, Lib.indexByte]
  simp [h]
theorem splitK_ne {b : UInt8} (h : b ≠ 10) : ∀ (k : Nat) (l : List UInt8), Lib.splitK [10] 0 k (b :: l) = match Lib.splitK [10] 0 k l with | [] => [[b]] | x :: r => (b :: x) :: r
  | 0, l => rfl
  | k + 1, l => by
    rw [Lib.splitK, Lib.splitK, index10_ne h]
    by_cases hm : Lib.index l [10] = -1
    · simp [hm]
    · have hge := Lib.index_ge l [10]
      have h1 : (Lib.index l [10] == -1) = false := beq_eq_false_iff_ne.2 hm
      have h2 : (Lib.index l [10] + 1 == -1) = false := beq_eq_false_iff_ne.2 (by omega)
      rw [h1]
      simp only [Bool.false_eq_true, if_false]
      rw [h2]
      simp only [Bool.false_eq_true, if_false, Nat.add_zero]
      obtain ⟨j, hj⟩ : ∃ j : Nat, Lib.index l [10] = j := ⟨(Lib.index l [10]).toNat, by omega⟩
      rw [hj]
      rw [show ((j : Int) + 1).toNat = j + 1 by omega, Int.toNat_natCast]
      simp
theorem split_lines : ∀ (l : List UInt8), Lib.splitK [10] 0 (Lib.count l [10]) l = linesL l
  | [] => by
    rw [Lib.count_one]
    rfl
  | b :: l => by
    have ih := split_lines l
    by_cases h : b = 10
    · subst h
      rw [Lib.count_cons_eq, Nat.add_comm, Lib.splitK, index10_eq, linesL, if_pos rfl, ← ih]
      simp
    · rw [Lib.count_cons_ne _ _ _ h, splitK_ne h, ih, linesL, if_neg h]
theorem splitB_lines (l : List UInt8) : (Lib.splitB ⟨#[10]⟩ 0 (Lib.countB (bs l) ⟨#[10]⟩) (bs l)) = (linesL l).map bs := by
  have h := Lib.splitB_data (⟨#[10]⟩ : ByteArray) 0 (Lib.countB (bs l) ⟨#[10]⟩) (bs l)
  have hc : Lib.countB (bs l) ⟨#[10]⟩ = Lib.count l [10] := by unfold Lib.countB; rw [bs_data]
  rw [bs_data, hc] at h
  have h2 : (Lib.splitK (⟨#[10]⟩ : ByteArray).data.toList 0 (Lib.count l [10]) l) = linesL l := split_lines l
  rw [h2, ← hc] at h
  have h3 := congrArg (List.map bs) h
  rw [List.map_map] at h3
  rw [← h3]
  conv => lhs; rw [← List.map_id (Lib.splitB _ _ _ _)]
  rfl
theorem lines_len (l : List UInt8) : (linesL l).length = Lib.countB (bs l) ⟨#[10]⟩ + 1 := by
  have h := Lib.splitB_all (⟨#[10]⟩ : ByteArray) (by decide) 0 _ (bs l) rfl
  rw [splitB_lines, List.length_map] at h
  exact h
/-- A register's keys. -/
def keysL (k : Int) (L : List (List UInt8)) : List UInt8 := joinL L ++ (if k = 1 then [10] else [])
end Go.Proofs.YtkgngcibjkkhkaaDoor
