/- A stack of frames: plain data; both stacks in memory. -/
import Derived.Test.YtkgngcibjkkhkaaDoorChecked
import Derived.Test.YtkgngcibjkkhkaaDoorRangeO
import Derived.Test.YtkgngcibjkkhkaaDoorKit
import Derived.Test.YtkgngcibjkkhkaaDoorRow
import Derived.Test.YtkgngcibjkkhkaaDoorStr
import Derived.Test.YtkgngcibjkkhkaaDoorRowByte
import Derived.Test.YtkgngcibjkkhkaaDoorRowFrm
import Derived.Test.YtkgngcibjkkhkaaDoorRowWfr
import Derived.Test.YtkgngcibjkkhkaaDoorHeldIn2
import Derived.Test.YtkgngcibjkkhkaaDoorFull
import Derived.Handy
import Derived.WalkSpells
import Derived.Deep.RegionHeld3
import Derived.Deep.RegionLaw
import Derived.Deep.DrawnRows
import Derived.Deep.QuietTactic
import Derived.BigQuiet
import Derived.StillTailTactics
import Derived.Deep.DeepCutAuto
import Derived.Deep.CutBlock
namespace Go.Proofs.YtkgngcibjkkhkaaDoor
open Go Go.RowKit Go.Fol
set_option linter.unusedVariables false
set_option linter.unusedSimpArgs false
/-- A frame: keys, how often still, how far. -/
structure Fr where
  K : List Int
  n : Int
  at_ : Nat
def Fr.ok (f : Fr) : Prop := f.at_ < f.K.length ∧ 1 ≤ f.n ∧ f.K.length ≤ 1000 ∧ bytesN f.K ∧ f.n ≤ 9223372036854775807
/-- A stack. -/
structure St where
  L : List Fr
  fuel : Int
  left : Int
  depth : Int
structure St.ok (s : St) : Prop where
  fr : ∀ f ∈ s.L, f.ok
  len : s.L.length ≤ 1000
  left : 0 ≤ s.left ∧ s.left ≤ 1000000
  fuel : 0 ≤ s.fuel ∧ s.fuel ≤ 1000000
  depth : 0 ≤ s.depth ∧ s.depth ≤ 1000
def newS (fuel depth : Int) : St := ⟨[], max fuel 0, max fuel 0, max depth 0⟩
/-- What pushing keys comes to. -/
def pushF (s : St) (K : List Int) (n : Int) : Bool × St :=
  if n < 1 ∨ K = [] then (true, s) else if s.depth ≤ s.L.length then (false, s) else (true, { s with L := s.L ++ [⟨K, n, 0⟩] })
/-- A frame behind a key: none, where it is played out. -/
def stepFr (f : Fr) : Option Fr :=
  if f.at_ + 1 = f.K.length then (if f.n - 1 < 1 then none else some { f with at_ := 0, n := f.n - 1 }) else some { f with at_ := f.at_ + 1 }
def popL (L : List Fr) (f : Fr) : List Fr := match stepFr f with | none => L | some g => L ++ [g]
/-- What the next key is: the last frame apart. -/
def nextF (s : St) : Option (Int × St) := match s.L.getLast? with
  | none => none
  | some f => if s.left = 0 then none else some (f.K.getD f.at_ 0, { s with L := popL s.L.dropLast f, left := s.left - 1 })
theorem stepFr_ok {f g : Fr} (h : f.ok) (hs : stepFr f = some g) : g.ok := by
  obtain ⟨h1, h2, h3, h4, h5⟩ := h
  unfold stepFr at hs
  split at hs
  · split at hs
    · cases hs
    · cases hs
      exact ⟨by show 0 < f.K.length; omega, by show 1 ≤ f.n - 1; omega, h3, h4, by show f.n - 1 ≤ _; omega⟩
  · cases hs
    exact ⟨by show f.at_ + 1 < f.K.length; omega, h2, h3, h4, h5⟩
theorem new_ok {fuel depth : Int} (h1 : fuel ≤ 1000000) (h2 : depth ≤ 1000) : (newS fuel depth).ok :=
  ⟨fun f hf => by simp [newS] at hf, by simp [newS], by simp [newS]; omega, by simp [newS]; omega, by simp [newS]; omega⟩
theorem push_ok {s : St} {K : List Int} {n : Int} (h : s.ok) (hK : K.length ≤ 1000) (hb : bytesN K) (hn : n ≤ 9223372036854775807) : (pushF s K n).2.ok := by
  unfold pushF
  split
  · exact h
  · rename_i h1
    split
    · exact h
    · rename_i h2
      refine ⟨fun f hf => ?_, ?_, h.left, h.fuel, h.depth⟩
      · rcases List.mem_append.1 hf with hf | hf
        · exact h.fr f hf
        · simp at hf
          subst hf
          have : K.length ≠ 0 := fun h => h1 (.inr (List.eq_nil_of_length_eq_zero h))
          exact ⟨by show 0 < K.length; omega, by show 1 ≤ n; omega, hK, hb, hn⟩
      · show (s.L ++ [_]).length ≤ 1000
        have := h.depth.2
        rw [List.length_append]
        simp
        omega
theorem next_ok {s s' : St} {c : Int} (h : s.ok) (hn : nextF s = some (c, s')) : s'.ok ∧ 0 ≤ c ∧ c ≤ 255 := by
  unfold nextF at hn
  split at hn
  · cases hn
  · rename_i f hf
    split at hn
    · cases hn
    · rename_i hl
      cases hn
      have hfm : f ∈ s.L := List.mem_of_getLast? hf
      have hfo := h.fr f hfm
      have hat := hfo.1
      refine ⟨⟨fun g hg => ?_, ?_, ?_, h.fuel, h.depth⟩, ?_⟩
      · simp only [popL] at hg
        split at hg
        · exact h.fr g ((List.dropLast_sublist _).subset hg)
        · rename_i g' hg'
          rcases List.mem_append.1 hg with hg | hg
          · exact h.fr g ((List.dropLast_sublist _).subset hg)
          · simp at hg
            subst hg
            exact stepFr_ok hfo hg'
      · have h0 := h.len
        have h1 : 0 < s.L.length := List.length_pos_of_mem hfm
        simp only [popL]
        split
        · simp; omega
        · simp; omega
      · have := h.left
        show 0 ≤ s.left - 1 ∧ s.left - 1 ≤ 1000000
        omega
      · rw [List.getD_eq_getElem?_getD, List.getElem?_eq_getElem hat]
        exact hfo.2.2.2.1 _ (List.getElem_mem hat)
theorem last_form {α : Type} {L : List α} {f : α} (h : L.getLast? = some f) : L = L.dropLast ++ [f] := by
  rw [List.getLast?_eq_some_iff] at h
  obtain ⟨ys, rfl⟩ := h
  simp
/-! in memory -/
/-- A frame with the address of its keys. -/
structure Ml where
  f : Fr
  a : Option Addr
  c : Nat
abbrev Ml.kv (m : Ml) : Value := .slice m.a m.f.K.length m.c
def frmf (m : Ml) : List Value := [m.kv, .int .i64 m.f.n, .int .i64 m.f.at_]
def wfrf (m : Ml) : List Value := [m.kv, .int .i64 m.f.at_, .int .i64 m.f.n]
theorem frmf_len : ∀ x, (frmf x).length = 3 := fun _ => rfl
theorem wfrf_len : ∀ x, (wfrf x).length = 3 := fun _ => rfl
abbrev mlA (m : Ml) : Asrt := Asrt.src 1 m.kv m.f.K.length (kints .u8 m.f.K)
abbrev sobj (p : Nat) (s : St) (v : Value) : Asrt := Asrt.obj p (.cells #[v, .int .i64 s.fuel, .int .i64 s.left, .int .i64 s.depth] 53 (0, 0))
abbrev wobj (p : Nat) (s : St) (v : Value) : Asrt := Asrt.obj p (.cells #[v, .int .i64 s.fuel, .int .i64 s.depth, .int .i64 s.left] 47 (0, 0))
/-- The program's stack, the document's. -/
def stkA (p : Nat) (s : St) : Asrt := Asrt.ex fun v : Value => Asrt.ex fun M : List Ml => Asrt.all [Asrt.pure (M.map (·.f) = s.L), sobj p s v, row_frm v M.length (flat frmf M), Asrt.all (M.map mlA)]
def wstA (p : Nat) (s : St) : Asrt := Asrt.ex fun v : Value => Asrt.ex fun M : List Ml => Asrt.all [Asrt.pure (M.map (·.f) = s.L), wobj p s v, row_wfr v M.length (flat wfrf M), Asrt.all (M.map mlA)]
section
variable {w0 w : World} {R : List Asrt}
theorem stkE {p : Nat} {s : St} (H : Owns w0 w (stkA p s :: R)) : ∃ (a : Option Addr) (c : Nat) (M : List Ml), M.map (·.f) = s.L ∧ Owns w0 w (sobj p s (.slice a M.length c) :: row_frm (.slice a M.length c) M.length (flat frmf M) :: Asrt.all (M.map mlA) :: R) := by
  obtain ⟨v, h⟩ := H.exE
  obtain ⟨M, h⟩ := h.exE
  obtain ⟨hp, h⟩ := (Owns.allE (L := [_, _, _, _]) h).pureE
  obtain ⟨a, c, rfl⟩ := row_slice h.p1.row
  exact ⟨a, c, M, hp, h⟩
theorem stkI {p : Nat} {s : St} {v : Value} {M : List Ml} (hM : M.map (·.f) = s.L) (H : Owns w0 w (sobj p s v :: row_frm v M.length (flat frmf M) :: Asrt.all (M.map mlA) :: R)) : Owns w0 w (stkA p s :: R) :=
  Owns.exI v (Owns.exI M (Owns.allI (L := [_, _, _, _]) (H.pureI hM)))
theorem wstE {p : Nat} {s : St} (H : Owns w0 w (wstA p s :: R)) : ∃ (a : Option Addr) (c : Nat) (M : List Ml), M.map (·.f) = s.L ∧ Owns w0 w (wobj p s (.slice a M.length c) :: row_wfr (.slice a M.length c) M.length (flat wfrf M) :: Asrt.all (M.map mlA) :: R) := by
  obtain ⟨v, h⟩ := H.exE
  obtain ⟨M, h⟩ := h.exE
  obtain ⟨hp, h⟩ := (Owns.allE (L := [_, _, _, _]) h).pureE
  obtain ⟨a, c, rfl⟩ := row_slice h.p1.row
  exact ⟨a, c, M, hp, h⟩
theorem wstI {p : Nat} {s : St} {v : Value} {M : List Ml} (hM : M.map (·.f) = s.L) (H : Owns w0 w (wobj p s v :: row_wfr v M.length (flat wfrf M) :: Asrt.all (M.map mlA) :: R)) : Owns w0 w (wstA p s :: R) :=
  Owns.exI v (Owns.exI M (Owns.allI (L := [_, _, _, _]) (H.pureI hM)))
attribute [local go_sem ↓] run_min2 run_max2
theorem mnew (fuel depth : Int) (H : Owns w0 w R) : Calls Tryd.prog 9 #[.int .i64 fuel, .int .i64 depth] w (RetX (fun p : Nat => .pointer (some ⟨p, 0, none⟩)) w0 (fun p => stkA p (newS fuel depth) :: R)) := by
  have h := H.alloc #[.slice none 0 0, .int .i64 (max fuel 0), .int .i64 (max fuel 0), .int .i64 (max depth 0)] 53
  have H2 := Lib.hid (stkI (s := newS fuel depth) (M := []) rfl (((allNil mlA h).ord [1]).rowNil 56 3 |>.ord [1]))
  clear H h
  go_enter Tryd.func9, Tryd.ntmps9
  go_wp2_with fail
  go_ret
  exact ⟨_, rfl, H2.out⟩
theorem wnew (fuel depth : Int) (H : Owns w0 w R) : Calls Tryd.prog 21 #[.int .i64 fuel, .int .i64 depth] w (RetX (fun p : Nat => .pointer (some ⟨p, 0, none⟩)) w0 (fun p => wstA p (newS fuel depth) :: R)) := by
  have h := H.alloc #[.slice none 0 0, .int .i64 (max fuel 0), .int .i64 (max depth 0), .int .i64 (max fuel 0)] 47
  have H2 := Lib.hid (wstI (s := newS fuel depth) (M := []) rfl (((allNil mlA h).ord [1]).rowNil 62 3 |>.ord [1]))
  clear H h
  go_enter Tryd.func21, Tryd.ntmps21
  go_wp2_with fail
  go_ret
  exact ⟨_, rfl, H2.out⟩
end
end Go.Proofs.YtkgngcibjkkhkaaDoor
