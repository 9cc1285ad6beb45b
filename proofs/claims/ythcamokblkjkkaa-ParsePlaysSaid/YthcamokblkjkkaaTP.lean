/- The two parsers side by side: one byte, plain. -/
import Derived.Test.YthcamokblkjkkaaTB
import Derived.Test.YthcamokblkjkkaaPQ
namespace Go.Proofs.Ythcamokblkjkkaa
open Go Go.RowKit Go.Fol
set_option linter.unusedVariables false
set_option linter.unusedSimpArgs false
theorem fstart_opn (s : PSt) (v : Bool) : (fstart s v).opn = true := by
  unfold fstart
  split
  · assumption
  · rfl
theorem feedF_v {s : PSt} (h : s.opn = true) (c : Int) (v v' : Bool) : feedF s c v = feedF s c v' := by
  unfold feedF fstart
  rw [if_pos h, if_pos h]
theorem runs_snoc {v : Bool} {K : List Int} {c : Int} {s : PSt} (h : runs v pzero K = some s) (h0 : (feedF s c v).1 = 0) : runs v pzero (K ++ [c]) = some (feedF s c v).2.2 := by
  rw [runs_append v K [c] pzero s h, runs, if_pos h0]
  rfl
/-- The parser's state behind the keys K that are pending (told of v). -/
structure Pair (s : PSt) (K : List Int) (v : Bool) : Prop where
  run : runs v pzero K = some s
  opn : s.opn = !K.isEmpty
  ok : s.ok
  by_ : bytesB K
theorem pair_zero (v : Bool) : Pair pzero [] v := ⟨rfl, rfl, ok_zero, fun x hx => by cases hx⟩
/-- What it is told from now on. -/
def visOf (K : List Int) (v0 v : Bool) : Bool := if K = [] then v else v0
def keysOf (r : Int) (K : List Int) (c : Int) : List Int := if r = 0 then K ++ [c] else []
theorem pair_step {s : PSt} {K : List Int} {v0 : Bool} (h : Pair s K v0) (v : Bool) {c : Int} (h0 : 0 ≤ c) (h1 : c ≤ 255) {r : Int} {cm : Cm} {s' : PSt} (hf : feedF s c v = (r, cm, s')) :
    tryF (visOf K v0 v) (K ++ [c]) = (r, cm) ∧ Pair s' (keysOf r K c) (visOf K v0 v) ∧ (r ≠ 1 → cm = czero) := by
  have hfv : feedF s c (visOf K v0 v) = (r, cm, s') := by
    unfold visOf
    split
    · exact hf
    · rename_i hK
      rw [← hf]
      exact feedF_v (by rw [h.opn]; cases K with | nil => exact absurd rfl hK | cons _ _ => rfl) c _ _
  have hrun : runs (visOf K v0 v) pzero K = some s := by
    unfold visOf
    split
    · rename_i hK; subst hK; exact h.run
    · exact h.run
  have ht := feed_try (c := c) hrun
  rw [hfv] at ht
  have hs' : (feedF s c (visOf K v0 v)).2.2 = s' := by rw [hfv]
  have hr' : (feedF s c (visOf K v0 v)).1 = r := by rw [hfv]
  refine ⟨ht, ?_, ?_⟩
  · unfold keysOf
    split
    · rename_i hr
      refine ⟨?_, ?_, ?_, ?_⟩
      · rw [runs_snoc hrun (by rw [hr', hr]), hs']
      · have : s'.opn = true := by
          rw [← hs', feedF]
          simp only
          rw [if_pos (by rw [← hr, ← hr']; rfl), step_opn, fstart_opn]
        rw [this]
        simp
      · rw [← hs']; exact ok_feed h.ok
      · intro x hx
        rcases List.mem_append.1 hx with h' | h'
        · exact h.by_ x h'
        · simp at h'; subst h'; exact ⟨h0, h1⟩
    · rename_i hr
      have : s' = pzero := by
        rw [← hs', feedF]
        simp only
        rw [if_neg (fun h' => hr (by rw [← hr']; exact h'))]
      rw [this]
      exact pair_zero _
  · intro hr
    have : cm = (feedF s c (visOf K v0 v)).2.1 := by rw [hfv]
    rw [this, feedF]
    simp only
    rw [if_neg (fun h' => hr (by rw [← hr']; exact h'))]
theorem keysOf_len (r : Int) (K : List Int) (c : Int) : (keysOf r K c).length ≤ K.length + 1 := by unfold keysOf; split <;> simp
/-- Esc. -/
theorem feed_esc_open {s : PSt} (h : s.opn = true) (v : Bool) : feedF s 27 v = (2, czero, pzero) := by
  have : stepF (fstart s v) 27 = (2, fstart s v) := step_27 (by unfold fstart; rw [if_pos h])
  rw [feedF, this]
  rfl
theorem feed_esc_zero (v : Bool) : feedF pzero 27 v = if v then (1, ⟨0, 0, ⟨#[]⟩, ⟨#[101, 115, 99]⟩, 0, ⟨#[]⟩⟩, pzero) else (2, czero, pzero) := by
  cases v <;> rfl
end Go.Proofs.Ythcamokblkjkkaa
