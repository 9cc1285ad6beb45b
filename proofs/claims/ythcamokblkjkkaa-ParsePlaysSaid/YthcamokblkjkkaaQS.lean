/- Scripts of numbers: some keys, of bounded length. -/
import Derived.Test.YthcamokblkjkkaaQT
import Derived.Test.YthcamokblkjkkaaHeld
namespace Go.Proofs.Ythcamokblkjkkaa
open Go Go.RowKit Go.Fol
attribute [local go_sem ↓] Go.wp_at_zero Go.wp_at_succ
set_option linter.unusedVariables false
set_option linter.unusedSimpArgs false
/-- Strings laid as a literal. -/
def litOf : Value → List UInt8 | .string b => b.data.toList | _ => []
def okLit (C : Array Value) : Bool := C.toList.all (fun v => match v with | .string b => decide (b.size ≤ 30) | _ => false) && decide (1 ≤ C.size) && decide (C.size ≤ 200)
/-- A list of short strings. -/
structure Shorts (S : List (List UInt8)) : Prop where
  ge : 1 ≤ S.length
  le : S.length ≤ 200
  each : ∀ s ∈ S, s.length ≤ 30
abbrev sstrs (S : List (List UInt8)) : List Value := strs (S.map bs)
theorem lits_of {C : Array Value} (h : okLit C = true) : Shorts (C.toList.map litOf) ∧ sstrs (C.toList.map litOf) = C.toList := by
  simp only [okLit, Bool.and_eq_true, decide_eq_true_eq] at h
  obtain ⟨⟨h1, h2⟩, h3⟩ := h
  rw [List.all_eq_true] at h1
  refine ⟨⟨by simpa using h2, by simpa using h3, fun s hs => ?_⟩, ?_⟩
  · obtain ⟨v, hv, rfl⟩ := List.mem_map.1 hs
    have := h1 v hv
    cases v <;> simp at this
    simpa [litOf] using this
  · have : ∀ l : List Value, (∀ v ∈ l, (match v with | .string b => decide (b.size ≤ 30) | _ => false) = true) → sstrs (l.map litOf) = l := by
      intro l
      induction l with
      | nil => intro _; rfl
      | cons v l ih =>
        intro hl
        have hv := hl v List.mem_cons_self
        have := ih (fun x hx => hl x (List.mem_cons_of_mem _ hx))
        cases v <;> simp at hv
        simp only [sstrs, strs, List.map_cons, litOf] at this ⊢
        rw [this, ← bs_of]
    exact this _ h1
section
variable {w0 w : World} {R : List Asrt}
/-- A list as it is told. -/
def ListRet (w0 : World) (R : List Asrt) (e : Ending) (w' : World) : Prop := ∃ (S : List (List UInt8)) (v : Value), Shorts S ∧ e = .returned v ∧ Owns w0 w' (Asrt.src 1 v S.length (sstrs S) :: R)
theorem list_ret {C : Array Value} {n : Nat} {t : TypeId} (hC : okLit C = true) (hn : n = C.size) (H : Owns w0 w R) :
    ListRet w0 R (.returned (.slice (some ⟨w.heap.size, 0, none⟩) n n)) (w.alloc (.cells C t)) := by
  subst hn
  obtain ⟨h1, h2⟩ := lits_of hC
  have hle := h1.le
  rw [List.length_map, Array.length_toList] at hle
  have h := (H.alloc C t).srcOfObj (n := C.size) (c := C.size) (Nat.le_refl _) (by unfold maxLen; omega) (Nat.le_refl _)
  rw [List.take_of_length_le (by simp), ← h2] at h
  refine ⟨C.toList.map litOf, _, h1, rfl, ?_⟩
  rw [List.length_map, Array.length_toList]
  exact h
set_option maxRecDepth 100000 in
set_option maxHeartbeats 4000000 in
theorem wmotions (H : Owns w0 w R) : Calls Try.prog 27 #[] w (ListRet w0 R) := by
  have HH := Lib.hid H
  clear H
  go_enter Try.func27, Try.ntmps27
  go_wp2_with fail
  go_ret
  exact list_ret (by kernel_rfl) (by kernel_rfl) HH.out
set_option maxRecDepth 100000 in
set_option maxHeartbeats 4000000 in
theorem wchanges (H : Owns w0 w R) : Calls Try.prog 28 #[] w (ListRet w0 R) := by
  have HH := Lib.hid H
  clear H
  go_enter Try.func28, Try.ntmps28
  go_wp2_with fail
  go_ret
  exact list_ret (by kernel_rfl) (by kernel_rfl) HH.out
set_option maxRecDepth 100000 in
set_option maxHeartbeats 4000000 in
theorem wothers (H : Owns w0 w R) : Calls Try.prog 29 #[] w (ListRet w0 R) := by
  have HH := Lib.hid H
  clear H
  go_enter Try.func29, Try.ntmps29
  go_wp2_with fail
  go_ret
  exact list_ret (by kernel_rfl) (by kernel_rfl) HH.out
/-- Some keys, at most m. -/
def SomeKeys (m : Nat) (w0 : World) (R : List Asrt) (e : Ending) (w' : World) : Prop := ∃ (K : List Int) (v : Value), bytesN K ∧ K.length ≤ m ∧ e = .returned v ∧ Owns w0 w' (row_byte v K.length (kints .u8 K) :: R)
theorem wkeys {s : List UInt8} (hs : s.length ≤ 30) (H : Owns w0 w R) : Calls Try.prog 30 #[.string (bs s)] w (SomeKeys 30 w0 R) := by
  have hp := wparse (s := s) (by omega) H
  have HH := Lib.hid hp
  clear hp H
  go_enter Try.func30, Try.ntmps30
  go_wp2_with fail
  refine HH.out.mono ?_
  rintro e w1 (⟨hn, rfl, h1⟩ | ⟨K, v, hK, rfl, h1⟩)
  · have H1 := Lib.hid (h1.rowNil 5 1)
    clear h1 hn
    go_wp2_with fail
    go_ret
    exact ⟨[], _, (fun x hx => by cases hx), by simp, rfl, H1.out⟩
  · have hb := parseF_bd hK
    have H1 := Lib.hid h1
    have Hb := Lib.hid hb
    clear h1 hK hb
    go_wp2_with fail
    go_ret
    exact ⟨K, _, Hb.out.1, by have := Hb.out.2; omega, rfl, H1.out⟩
end
end Go.Proofs.Ythcamokblkjkkaa
