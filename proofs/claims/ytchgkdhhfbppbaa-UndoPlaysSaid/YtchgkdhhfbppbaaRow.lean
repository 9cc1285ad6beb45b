/- Rows of things of several cells: one cell set, the last let go; all of a list, one picked. No program in sight. -/
import Derived.Test.YtchgkdhhfbppbaaFlat
import Derived.Test.YtchgkdhhfbppbaaRangeO
namespace Go.Fol
open Go Go.RowKit
set_option linter.unusedVariables false
set_option linter.unusedSimpArgs false
section
variable {w0 w : World} {R : List Asrt} {e : TypeId} {k n : Nat} {v : Value} {xs : List Value}
theorem Owns.rowAt (H : Owns w0 w (Asrt.row e k v n xs :: R)) (hn : 0 < n) : ∃ g cap, v = .slice (some ⟨g, 0, none⟩) n cap ∧ n ≤ cap ∧ cap ≤ maxLen ∧ (∀ q y, xs[q]? = some y → w.cell? ⟨g, q, none⟩ = some y) ∧ (∀ q, w.frozen? ⟨g, q, none⟩ = false) := by
  have hrow := H.row
  rcases row_form hrow with ⟨_, rfl, _⟩ | ⟨g, cap, cur, rfl, hg, hnc, hm, hcs, htk, hxl⟩
  · omega
  · refine ⟨g, cap, rfl, hnc, hm, fun q y hq => ?_, fun q => frozen_of_heap hg q⟩
    have := hrow.cells (g := g) rfl q y hq
    rwa [Addr.add_lit, Nat.zero_add] at this
theorem Owns.rowPut {g cap q : Nat} (H : Owns w0 w (Asrt.row e k (.slice (some ⟨g, 0, none⟩) n cap) n xs :: R)) (hq : q < n * k) (x : Value) :
    Owns w0 (w.setCell ⟨g, q, none⟩ x) (Asrt.row e k (.slice (some ⟨g, 0, none⟩) n cap) n (xs.set q x) :: R) := by
  have hrow := H.row
  rcases row_form hrow with ⟨h, _⟩ | ⟨g', cap', cur, h, hg, hnc, hm, hcs, htk, hxl⟩
  · cases h
  cases h
  refine H.step1 (fun F ⟨e1, h⟩ _ => ?_)
  subst e1
  refine ⟨(Chg.refl _ w).setCell (fun _ => by simp [Value.ownBlock]) x, _, ⟨rfl, by simpa using hxl, .inr ⟨g, cap, _, rfl, Nat.zero_le _, heap_set_same hg x, hnc, hm, by simpa using hcs, ?_⟩⟩, fun b hb => .inl hb⟩
  simp only [Array.toList_setIfInBounds]
  rw [← htk, List.take_set]
/-- The first m of them. -/
theorem Owns.rowPre {a : Option Addr} {cap m : Nat} (H : Owns w0 w (Asrt.row e k (.slice a n cap) n xs :: R)) (hm : m ≤ n) :
    Owns w0 w (Asrt.row e k (.slice a m cap) m (xs.take (m * k)) :: R) := by
  have hrow := H.row
  refine H.step1 (fun F ⟨e1, h⟩ _ => ?_)
  subst e1
  rcases row_form hrow with ⟨h, h2, h3⟩ | ⟨g', cap', cur, h, hg, hnc, hcm, hcs, htk, hxl⟩
  · cases h
    obtain rfl : m = 0 := by omega
    exact ⟨Chg.refl _ _, _, ⟨rfl, by simp, .inl ⟨rfl, rfl⟩⟩, fun b hb => by simp [Value.ownBlock] at hb⟩
  · cases h
    have hmk : m * k ≤ n * k := Nat.mul_le_mul_right k hm
    refine ⟨Chg.refl _ _, _, ⟨rfl, ?_, .inr ⟨g', cap, cur, rfl, Nat.zero_le _, hg, by omega, hcm, hcs, ?_⟩⟩, fun b hb => .inl hb⟩
    · rw [List.length_take, hxl]; omega
    · rw [← htk, List.take_take, Nat.min_eq_left hmk]
end
theorem SrcV.fullCap {w : World} {k n c : Nat} {a : Option Addr} {xs : List Value} (h : SrcV w k (.slice a n c) n xs) : SrcV w k (.slice a n n) n xs := by
  rcases h with ⟨e, h0, h1⟩ | ⟨b, d, e, h1, h2, h3, h4⟩
  · cases e
    exact .inl ⟨rfl, h0, h1⟩
  · cases e
    exact .inr ⟨b, n, rfl, Nat.le_refl _, by omega, h3, h4⟩
theorem SrcV.capLe {w : World} {k n c : Nat} {a : Option Addr} {xs : List Value} (h : SrcV w k (.slice a n c) n xs) : n ≤ c := by
  rcases h with ⟨e, h0, h1⟩ | ⟨b, d, e, h1, h2, h3, h4⟩
  · cases e; exact Nat.le_refl _
  · cases e; exact h1
section
variable {w0 w : World} {R : List Asrt}
theorem perm_pick_l {α : Type} : ∀ (L : List α) (i : Nat) (h : i < L.length), L.Perm (L[i] :: L.eraseIdx i)
  | [], i, h => by simp at h
  | A :: L, 0, _ => List.Perm.refl _
  | A :: L, i + 1, h => by
    simp only [List.getElem_cons_succ, List.eraseIdx_cons_succ]
    exact ((perm_pick_l L i (by simpa using h)).cons A).trans (List.Perm.swap ..)
/-- All of a list: taken apart, put together, one looked at. -/
theorem allSplit {α : Type} (f : α → Asrt) {A B : List α} (H : Owns w0 w (Asrt.all ((A ++ B).map f) :: R)) : Owns w0 w (Asrt.all (A.map f) :: Asrt.all (B.map f) :: R) := by
  have h := Owns.allE H
  rw [List.map_append, List.append_assoc] at h
  have h1 := Owns.allI (L := B.map f) (R := A.map f ++ R) (h.perm (by rw [← List.append_assoc, ← List.append_assoc]; exact List.Perm.append_right _ List.perm_append_comm))
  exact Owns.allI (L := A.map f) (h1.perm List.perm_middle.symm)
theorem allJoin {α : Type} (f : α → Asrt) {A B : List α} (H : Owns w0 w (Asrt.all (A.map f) :: Asrt.all (B.map f) :: R)) : Owns w0 w (Asrt.all ((A ++ B).map f) :: R) := by
  refine Owns.allI ?_
  have h := Owns.allE (L := A.map f) H
  have h2 := Owns.allE (L := B.map f) (R := A.map f ++ R) (h.perm (List.perm_middle))
  rw [List.map_append]
  refine h2.perm ?_
  rw [← List.append_assoc]
  exact List.Perm.append_right _ List.perm_append_comm
theorem allOne {α : Type} (f : α → Asrt) {x : α} (H : Owns w0 w (f x :: R)) : Owns w0 w (Asrt.all ([x].map f) :: R) := Owns.allI (L := [f x]) H
theorem allNil {α : Type} (f : α → Asrt) (H : Owns w0 w R) : Owns w0 w (Asrt.all (([] : List α).map f) :: R) := Owns.allI (L := []) H
theorem allMem {α : Type} (f : α → Asrt) {L : List α} {x : α} (h : Asrt.all (L.map f) ∈ R) (hx : x ∈ L) (H : Owns w0 w R) : Owns w0 w [f x] := by
  have h1 := Owns.allE (L := L.map f) (R := []) (H.mem h)
  exact h1.mem (A := f x) (by simp; exact ⟨x, hx, rfl⟩)
theorem allDropLast {α : Type} (f : α → Asrt) {A : List α} {x : α} (H : Owns w0 w (Asrt.all ((A ++ [x]).map f) :: R)) : Owns w0 w (Asrt.all (A.map f) :: R) := (allSplit f H).p1.drop
end
end Go.Fol
