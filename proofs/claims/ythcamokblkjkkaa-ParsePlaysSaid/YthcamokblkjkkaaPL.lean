/- A parser of keys: New, Open, Reset, Feed. -/
import Derived.Test.YthcamokblkjkkaaPJ
namespace Go.Proofs.Ythcamokblkjkkaa
open Go Go.RowKit Go.Fol
attribute [local go_sem ↓] run_min2 run_max2
attribute [local go_sem ↓] Go.wp_at_zero Go.wp_at_succ
set_option linter.unusedVariables false
set_option linter.unusedSimpArgs false
theorem ok_zero : pzero.ok := ⟨by decide, by decide, by show (0 : Nat) ≤ 64; decide, fun h => absurd h (by decide), by decide, by decide⟩
theorem str1_size (c : Int) : (str1 c).size = 1 := rfl
theorem strg_size (c : Int) : (strg c).size = 2 := rfl
set_option maxHeartbeats 1000000 in
theorem ok_step {s : PSt} {c : Int} (ho : s.ok) : (stepF s c).2.ok := by
  obtain ⟨a, b, t, o, l, h⟩ := ho
  have mk : ∀ (s' : PSt), s'.an ≤ 9999 → s'.bn ≤ 9999 → s'.text.size ≤ 64 → ((s'.state = s.state ∧ s'.op = s.op) ∨ (0 ≤ s'.state ∧ s'.state ≤ 7 ∧ (s'.state = 3 → 1 ≤ s'.op.size ∧ s'.op.size ≤ 2))) → s'.ok := fun s' h1 h2 h3 h4 => by
    rcases h4 with ⟨e1, e2⟩ | ⟨e1, e2, e3⟩
    · exact ⟨h1, h2, h3, by rw [e1, e2]; exact o, by omega, by omega⟩
    · exact ⟨h1, h2, h3, e3, e1, e2⟩
  have hm : ∀ s' : PSt, s' = s → (motionF s' c).2.ok := by
    rintro s' rfl
    unfold motionF
    repeat' split
    all_goals exact mk _ a b t (by first | exact .inl ⟨rfl, rfl⟩ | exact .inr ⟨by simp, by simp, fun h => by simp at h⟩)
  unfold stepF
  repeat' split
  · exact mk _ a b t (.inl ⟨rfl, rfl⟩)
  · exact mk _ a b t (.inl ⟨rfl, rfl⟩)
  · unfold nameF
    split
    · exact mk _ a b t (.inr ⟨by simp, by simp, fun h => by simp at h⟩)
    · exact mk _ a b t (.inl ⟨rfl, rfl⟩)
  · exact mk _ a b t (.inr ⟨by simp, by simp, fun _ => ⟨by simp [strg_size], by simp [strg_size]⟩⟩)
  · unfold farF
    split <;> exact mk _ a b t (.inl ⟨rfl, rfl⟩)
  · unfold operandF
    repeat' split
    · exact mk _ a (dig_le _ _) t (.inl ⟨rfl, rfl⟩)
    · exact mk _ a b t (.inl ⟨rfl, rfl⟩)
    · exact mk _ a b t (.inr ⟨by simp, by simp, fun h => by simp at h⟩)
    · exact hm s rfl
  · unfold farF
    split <;> exact mk _ a b t (.inl ⟨rfl, rfl⟩)
  · unfold objF
    repeat' split
    all_goals exact mk _ a b t (.inl ⟨rfl, rfl⟩)
  · unfold argF
    split <;> exact mk _ a b t (.inl ⟨rfl, rfl⟩)
  · unfold searchF
    repeat' split
    · exact mk _ a b t (.inl ⟨rfl, rfl⟩)
    · exact mk _ a b t (.inl ⟨rfl, rfl⟩)
    · exact mk _ a b t (.inl ⟨rfl, rfl⟩)
    · exact mk _ a b (by show (s.text.extract 0 (s.text.size - 1)).size ≤ 64; rw [ByteArray.size_extract]; omega) (.inl ⟨rfl, rfl⟩)
    · exact mk _ a b t (.inl ⟨rfl, rfl⟩)
    · rename_i hx
      exact mk _ a b (by show (s.text ++ str1 c).size ≤ 64; rw [ByteArray.size_append, str1_size]; simp at hx; omega) (.inl ⟨rfl, rfl⟩)
  · exact mk _ (dig_le _ _) b t (.inl ⟨rfl, rfl⟩)
  · exact mk _ a b t (.inr ⟨by simp, by simp, fun h => by simp at h⟩)
  · unfold selectedF
    repeat' split
    all_goals first
      | exact hm s rfl
      | exact mk _ a b t (by first | exact .inl ⟨rfl, rfl⟩ | exact .inr ⟨by simp, by simp, fun h => by simp at h⟩)
  · unfold commandF
    repeat' split
    all_goals first
      | exact hm s rfl
      | exact mk _ a b t (.inl ⟨rfl, rfl⟩)
      | (refine mk _ a b t (.inr ⟨by simp, by simp, fun _ => ?_⟩); show 1 ≤ (str1 c).size ∧ (str1 c).size ≤ 2; simp [str1_size]; done)
      | (refine mk _ a b t (.inr ⟨by simp, by simp, fun h => ?_⟩); simp at h; done)
/-- A command. -/
structure Cm where
  reg : Int
  count : Int
  op : ByteArray
  name : ByteArray
  arg : Int
  text : ByteArray
abbrev Cm.cells (c : Cm) : Array Value := #[.int .u8 c.reg, .int .i64 c.count, .string c.op, .string c.name, .int .u8 c.arg, .string c.text]
def czero : Cm := ⟨0, 0, ⟨#[]⟩, ⟨#[]⟩, 0, ⟨#[]⟩⟩
def cmOf (s : PSt) : Cm := ⟨s.reg, countF s, s.op, s.name, s.arg, s.text⟩
def fstart (s : PSt) (v : Bool) : PSt := if s.opn then { s with first := false } else { pzero with opn := true, visual := v, first := true }
def feedF (s : PSt) (c : Int) (v : Bool) : Int × Cm × PSt :=
  ((stepF (fstart s v) c).1, if (stepF (fstart s v) c).1 = 1 then cmOf (stepF (fstart s v) c).2 else czero, if (stepF (fstart s v) c).1 = 0 then (stepF (fstart s v) c).2 else pzero)
theorem ok_start {s : PSt} {v : Bool} (ho : s.ok) : (fstart s v).ok := by
  unfold fstart
  split
  · exact ⟨ho.an, ho.bn, ho.text, ho.op, ho.s0, ho.s7⟩
  · exact ⟨ok_zero.an, ok_zero.bn, ok_zero.text, ok_zero.op, ok_zero.s0, ok_zero.s7⟩
theorem ok_feed {s : PSt} {c : Int} {v : Bool} (ho : s.ok) : (feedF s c v).2.2.ok := by
  unfold feedF
  simp only
  split
  · exact ok_step (ok_start ho)
  · exact ok_zero
section
variable {w0 w : World} {R : List Asrt}
theorem pnew (H : Owns w0 w R) : Calls Try.prog 13 #[] w (RetX (fun p : Nat => .pointer (some ⟨p, 0, none⟩)) w0 (fun p => pobj p pzero :: R)) := by
  have H1 := Lib.hid (H.alloc pzero.cells 54)
  clear H
  go_enter Try.func13, Try.ntmps13
  go_wp2_with fail
  go_ret
  exact ⟨_, rfl, H1.out⟩
theorem popen {p : Nat} {s : PSt} (H : Owns w0 w (pobj p s :: R)) : Calls Try.prog 16 #[.pointer (some ⟨p, 0, none⟩)] w fun e w' => e = .returned (.bool s.opn) ∧ w = w' := by
  have k : w.cell? ⟨p, 1, none⟩ = some (.bool s.opn) := H.cell (j := 1) rfl
  clear H
  go_enter Try.func16, Try.ntmps16
  go_wp2_with fail
  go_ret
  exact ⟨rfl, rfl⟩
theorem cells_reset (s : PSt) : (((((((((((((s.cells.setIfInBounds 0 (Value.int .i64 0)).setIfInBounds 1 (Value.bool false)).setIfInBounds 2 (Value.bool false)).setIfInBounds 3 (Value.bool false)).setIfInBounds 4 (Value.int .u8 0)).setIfInBounds 5 (Value.int .i64 0)).setIfInBounds 6 (Value.string ⟨#[]⟩)).setIfInBounds 7 (Value.string ⟨#[]⟩)).setIfInBounds 8 (Value.int .u8 0)).setIfInBounds 9 (Value.string ⟨#[]⟩)).setIfInBounds 10 (Value.int .i64 0)).setIfInBounds 11 (Value.bool false)).setIfInBounds 12 (Value.int .i64 0)).setIfInBounds 13 (Value.bool false) = pzero.cells := by simp [pzero]
theorem preset {p : Nat} {s : PSt} (H : Owns w0 w (pobj p s :: R)) : Calls Try.prog 19 #[.pointer (some ⟨p, 0, none⟩)] w (Ret (.tuple #[]) w0 (pobj p pzero :: R)) := by
  have k0 := H.cell (j := 0) rfl
  have f0 := H.frozen 0
  have k1 := H.cell (j := 1) rfl
  have f1 := H.frozen 1
  have k2 := H.cell (j := 2) rfl
  have f2 := H.frozen 2
  have k3 := H.cell (j := 3) rfl
  have f3 := H.frozen 3
  have k4 := H.cell (j := 4) rfl
  have f4 := H.frozen 4
  have k5 := H.cell (j := 5) rfl
  have f5 := H.frozen 5
  have k6 := H.cell (j := 6) rfl
  have f6 := H.frozen 6
  have k7 := H.cell (j := 7) rfl
  have f7 := H.frozen 7
  have k8 := H.cell (j := 8) rfl
  have f8 := H.frozen 8
  have k9 := H.cell (j := 9) rfl
  have f9 := H.frozen 9
  have k10 := H.cell (j := 10) rfl
  have f10 := H.frozen 10
  have k11 := H.cell (j := 11) rfl
  have f11 := H.frozen 11
  have k12 := H.cell (j := 12) rfl
  have f12 := H.frozen 12
  have k13 := H.cell (j := 13) rfl
  have f13 := H.frozen 13
  have HH := Lib.hid H
  clear H
  go_enter Try.func19, Try.ntmps19
  go_wp2_with fail
  go_end0
  have HE := (((((((((((((HH.out.set 0 (.int .i64 0)).set 1 (.bool false)).set 2 (.bool false)).set 3 (.bool false)).set 4 (.int .u8 0)).set 5 (.int .i64 0)).set 6 (.string ⟨#[]⟩)).set 7 (.string ⟨#[]⟩)).set 8 (.int .u8 0)).set 9 (.string ⟨#[]⟩)).set 10 (.int .i64 0)).set 11 (.bool false)).set 12 (.int .i64 0)).set 13 (.bool false)
  rw [cells_reset] at HE
  exact ⟨rfl, HE⟩
end
end Go.Proofs.Ythcamokblkjkkaa
