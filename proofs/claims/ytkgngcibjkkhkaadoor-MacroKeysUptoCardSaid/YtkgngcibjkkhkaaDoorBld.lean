/- strings.Builder: one that the call itself has made; words of what stands side by side. -/
import Derived.Test.YtkgngcibjkkhkaaDoorChecked
import Derived.Test.YtkgngcibjkkhkaaDoorStr
import Derived.Test.YtkgngcibjkkhkaaDoorRowByte
import Derived.Test.YtkgngcibjkkhkaaDoorKit
import Derived.Test.YtkgngcibjkkhkaaDoorShelf
import Derived.Handy
import Derived.Deep.DrawnRows
import Derived.StillTailTactics
import Derived.Deep.DeepCutAuto
import Derived.Deep.CutBlock
import Derived.Lib.AppendStr
import Derived.Lib.Builder
namespace Go.Proofs.YtkgngcibjkkhkaaDoor
open Go Go.RowKit Go.Fol
attribute [local go_sem ↓] Go.wp_at_zero Go.wp_at_succ
set_option linter.unusedVariables false
set_option linter.unusedSimpArgs false
/-- bytes of a row, as letters. -/
abbrev lrow (v : Value) (l : List UInt8) : Asrt := row_byte v l.length (kints .u8 (bn l))
abbrev bsrcL (v : Value) (l : List UInt8) : Asrt := Asrt.src 1 v l.length (kints .u8 (bn l))
def bldAddr (b : Nat) : Bool → Value | true => .pointer (some ⟨b, 0, none⟩) | false => .pointer none
/-- A builder. -/
abbrev bobj (b : Nat) (u : Bool) (v : Value) : Asrt := Asrt.obj b (.cells #[bldAddr b u, v] 66 (0, 0))
def bldA (b : Nat) (u : Bool) (l : List UInt8) : Asrt := Asrt.ex fun v : Value => Asrt.all [bobj b u v, lrow v l]
section
variable {w0 w : World} {R : List Asrt}
theorem bldE {b : Nat} {u : Bool} {l : List UInt8} (H : Owns w0 w (bldA b u l :: R)) : ∃ a c, Owns w0 w (bobj b u (.slice a l.length c) :: lrow (.slice a l.length c) l :: R) := by
  obtain ⟨v, h⟩ := H.exE
  have h := Owns.allE (L := [_, _]) h
  obtain ⟨a, c, rfl⟩ := row_slice h.p1.row
  exact ⟨a, c, h⟩
theorem bldI {b : Nat} {u : Bool} {v : Value} {l : List UInt8} (H : Owns w0 w (bobj b u v :: lrow v l :: R)) : Owns w0 w (bldA b u l :: R) := Owns.exI v (Owns.allI (L := [_, _]) H)
theorem bldNew {b : Nat} (H : Owns w0 w (Asrt.obj b (.cells #[.pointer none, .slice none 0 0] 66 (0, 0)) :: R)) : Owns w0 w (bldA b false [] :: R) :=
  bldI (u := false) ((H.rowNil 5 1).p1)
/-- append of a string to a row of bytes. -/
theorem app_bs {v : Value} {xs : List UInt8} (s : List UInt8) (H : Owns w0 w (lrow v xs :: R)) (hl : xs.length + s.length ≤ 100000000) :
    ∃ v' w', (∀ ty, (Builtin.append_ #[22, 9] ty #[v, .string (bs s)]).run Tryd.prog w = .ok v' w') ∧ Owns w0 w' (lrow v' (xs ++ s) :: R) := by
  obtain ⟨i, hi, hz, hs1, hs2⟩ := info_parts info_byte
  have hsc : Lib.strCells (bs s) = kints .u8 (bn s) := by simp [Lib.strCells, bs, kints, bn]
  have hcat : kints .u8 (bn xs) ++ Lib.strCells (bs s) = kints .u8 (bn (xs ++ s)) := by rw [hsc]; simp [kints, bn]
  have hrow := H.row
  by_cases hnil : v = .slice none 0 0
  · subst hnil
    have hn0 : xs.length = 0 := by rcases row_form hrow with ⟨_, h, _⟩ | ⟨g, cap, cur, e, _⟩; exact h; cases e
    obtain rfl : xs = [] := List.eq_nil_of_length_eq_zero hn0
    obtain ⟨v', w', hr, ho, hg, _⟩ := Lib.run_append_own_string (P := Tryd.prog) (w := w) w.heap.size 22 9 0 5 i Tryd.underlying22 Tryd.underlying9 hi hz hs1 hs2 (.slice none 0 0) 0 [] (World.ownsRow_nil _ _ _ _) (bs s) (by rw [bs_size]; unfold maxLen; omega) (by rw [bs_size]; omega) (Nat.le_refl _)
    obtain ⟨hb1, hb2⟩ := row_base ho
    have hb1' : w'.ownsRow 0 5 1 v' ([] ++ s).length (kints .u8 (bn ([] ++ s))) := by rw [← hcat, List.nil_append]; rw [bs_size, Nat.zero_add] at hb1; exact hb1
    refine ⟨v', w', fun ty => hr, H.step1 (fun F ⟨e1, _⟩ _ => ?_)⟩
    subst e1
    exact ⟨((Chg.refl _ w).grown hg (fun k hk _ => by cases hk)), _, ⟨rfl, hb1'⟩, fun b hb => .inr (hb2 b (by simpa using hb))⟩
  · rcases row_form hrow with ⟨h, _⟩ | ⟨g, cap, cur, rfl, hg, hnc, hcm, hcs, htk, hxl⟩
    · exact absurd h hnil
    by_cases hroom : xs.length + (bs s).size ≤ cap
    · have hcs' : cur.size = cap := by simpa using hcs
      have hr := fun ty => Lib.run_append_room_string (P := Tryd.prog) w 22 9 ty 5 i Tryd.underlying22 Tryd.underlying9 hi hs1 g xs.length cap cur hg (bs s) hroom (by omega)
      rw [bs_size] at hr hroom
      refine ⟨_, _, hr, H.step1 (fun F ⟨e1, _⟩ _ => ?_)⟩
      subst e1
      rw [← List.length_append]
      refine ⟨(Chg.refl _ w).setRow (fun _ => by simp [Value.ownBlock]) _, _, ⟨rfl, ?_⟩, fun b hb => .inl hb⟩
      refine row_setRow (c0 := cur) hg (by rw [List.length_append]; exact hroom) hcm ?_ ?_
      · simp only [List.length_append, List.length_take, List.length_drop, Array.length_toList, Lib.strCells_length, bs_size]
        omega
      · have ht' : cur.toList.take xs.length = kints .u8 (bn xs) := by simpa using htk
        rw [ht', hcat, Nat.mul_one]
        exact List.take_left' (by simp [kints, bn])
    · rw [bs_size] at hroom
      have holds : ∀ j u, (kints .u8 (bn xs))[j]? = some u → w.cell? ((⟨g, 0, none⟩ : Addr).add j) = some u := hrow.cells (g := g) rfl
      have hr := fun ty => Lib.run_append_grow_string (P := Tryd.prog) w 22 9 ty 5 i (.int .u8 0) Tryd.underlying22 Tryd.underlying9 hi hz ⟨g, 0, none⟩ xs.length cap (kints .u8 (bn xs)) (by rw [hs1]; simpa using hxl) holds (bs s) (by rw [bs_size]; omega) (by rw [bs_size]; omega) (by rw [hs2, bs_size]; exact growslice_fits (by omega) (by omega))
      rw [bs_size] at hr
      refine ⟨_, _, hr, H.step1 (fun F ⟨e1, _⟩ _ => ?_)⟩
      have hge := grownCap_ge w (xs.length + s.length) cap 5
      have hcm' := grownCap_le_maxLen w (xs.length + s.length) cap 5 (by unfold maxLen; omega)
      rw [← List.length_append] at hge hcm' ⊢
      refine ⟨((Chg.refl _ w).drew.alloc _), [w.heap.size], ⟨rfl, by simp [kints, bn], .inr ⟨w.heap.size, _, _, rfl, Nat.zero_le _, heap_alloc_new w.drew _, hge, hcm', ?_, ?_⟩⟩, fun b hb => .inr (by simp at hb; omega)⟩
      · have hz1 : (Value.int IntKind.u8 0).cells.size = 1 := rfl
        simp only [Array.size_append, List.size_toArray, size_zeroCells, hz1, Lib.strCells_length, bs_size]
        have h1 : (kints .u8 (bn xs)).length = xs.length := by simp [kints, bn]
        rw [List.length_append] at hge ⊢
        omega
      · simp only [Array.toList_append, List.append_assoc]
        rw [← List.append_assoc, hcat]
        have : (xs ++ s).length * 1 = (kints .u8 (bn (xs ++ s))).length := by simp [kints, bn]
        rw [this]
        exact List.take_left
theorem size_bld : (Tryd.prog.info? 66).map (·.size) = some 2 := by kernel_rfl
theorem lies_bld : liesAt Tryd.prog Tryd.prog.depth 66 (2 / Tryd.prog.cellsOf 66) 0 66 1 = true := by kernel_rfl
theorem bCheck {b : Nat} {u : Bool} {l : List UInt8} (H : Owns w0 w (bldA b u l :: R)) :
    Calls Tryd.prog 36 #[.pointer (some ⟨b, 0, none⟩)] w (Ret (.tuple #[]) w0 (bldA b true l :: R)) := by
  obtain ⟨a, c, h⟩ := bldE H
  have k0 : w.cell? ⟨b, 0, none⟩ = some (bldAddr b u) := h.cell (j := 0) rfl
  have f0 := h.frozen 0
  have ks : w.shape? b = some (66, 2) := by
    unfold World.shape?
    rw [h.obj]
    rfl
  have H2 := Lib.hid (bldI (u := true) (h.set 0 (.pointer (some ⟨b, 0, none⟩))))
  have H1 := Lib.hid H
  clear H h
  obtain ⟨j, hj, hjs⟩ := Option.map_eq_some_iff.1 size_bld
  cases u with
  | false =>
    simp only [bldAddr] at k0
    go_enter Tryd.func36, Tryd.ntmps36
    go_wp2_with fail
    rw [Lib.run_to_unsafe w ⟨b, 0, none⟩ Tryd.underlying64 Tryd.underlying77 hj (by rw [hjs]; decide) ks (Nat.zero_lt_succ 1)]
    simp only [Result.andThen]
    rw [Oper.upon_value]
    go_wp2_with fail
    rw [run_callFunc_extern Tryd.func41 (by kernel_rfl) (by kernel_rfl) (by kernel_rfl) (e := Extern.AbiNoEscape.same) (by kernel_rfl)]
    rw [Lib.run_noEscape]
    simp only [Result.andThen]
    rw [Oper.upon_value]
    go_wp2_with fail
    rw [Lib.run_from_unsafe w ⟨b, 0, none⟩ Tryd.underlying77 Tryd.underlying64 hj ks lies_bld]
    simp only [Result.andThen]
    rw [Oper.upon_value]
    go_wp2_with fail
    go_end0
    exact ⟨rfl, H2.out⟩
  | true =>
    simp only [bldAddr] at k0
    go_enter Tryd.func36, Tryd.ntmps36
    go_wp2_with fail
    rw [Lib.run_neq_ptr_same w _ Tryd.underlying64 hj]
    go_wp2_with fail
    go_end0
    exact ⟨rfl, H1.out⟩
theorem bWrite {b : Nat} {u : Bool} {l : List UInt8} (s : List UInt8) (H : Owns w0 w (bldA b u l :: R)) (hl : l.length + s.length ≤ 100000000) :
    Calls Tryd.prog 33 #[.pointer (some ⟨b, 0, none⟩), .string (bs s)] w (Ret (.tuple #[.int .i64 s.length, .nilIface]) w0 (bldA b true (l ++ s) :: R)) := by
  have HH := Lib.hid H
  clear H
  go_enter Tryd.func33, Tryd.ntmps33
  go_wp2_with fail
  refine (bCheck HH.out).mono ?_
  rintro e w1 ⟨rfl, h1⟩
  obtain ⟨a, c, h⟩ := bldE h1
  have k1 : w1.cell? ⟨b, 1, none⟩ = some (.slice a l.length c) := h.cell (j := 1) rfl
  obtain ⟨v', w2, hr, h2⟩ := app_bs s h.p1 hl
  obtain ⟨va, vc, rfl⟩ := row_slice h2.row
  have f1 := h2.p1.frozen 1
  have kk : w2.cell? ⟨b, 1, none⟩ = some (.slice a l.length c) := h2.p1.cell (j := 1) rfl
  have hsz : (bs s).size = s.length := bs_size s
  have H3 := Lib.hid (bldI (u := true) (h2.p1.set 1 (.slice va (l ++ s).length vc)))
  clear h1 h h2 HH
  go_wp2_with (at_builtin; refine Lib.wpList_append_run _ rfl _ _ _ _ rfl _ _ rfl rfl _ _ (hr _) ?_)
  go_ret2
  exact ⟨rfl, by rw [← List.length_append]; exact H3.out⟩
end
section
variable {w w' : World} {R : List Asrt}
/-- String, of a builder that is the call's own: what the call leaves. -/
theorem bString {b : Nat} {u : Bool} {l : List UInt8} (H : Owns w w' (bldA b u l :: R)) :
    Calls Tryd.prog 34 #[.pointer (some ⟨b, 0, none⟩)] w' (Ret (.string (bs l)) w []) := by
  obtain ⟨a, c, h⟩ := bldE H
  have hB : w.heap.size ≤ b := by
    obtain ⟨F, ⟨rfl, _⟩, hs⟩ := h.head
    exact hs b (by simp)
  obtain ⟨F, ⟨hF, hrow⟩, hs⟩ := h.p1.head
  have hown : w'.ownsRow w.heap.size 5 1 (.slice a l.length c) (Lib.byteCells l).length (Lib.byteCells l) := by
    have e : Lib.byteCells l = kints .u8 (bn l) := by simp [Lib.byteCells, kints, bn]
    rw [e, show (kints .u8 (bn l)).length = l.length by simp [kints, bn]]
    obtain ⟨h1, h2 | ⟨g, cap, cur, hv, _, hrest⟩⟩ := hrow
    · exact ⟨h1, .inl h2⟩
    · exact ⟨h1, .inr ⟨g, cap, cur, hv, hs g (by rw [hF, hv]; simp [Value.ownBlock]), hrest⟩⟩
  have hne : (Value.slice a l.length c).ownBlock ≠ some b := by
    intro hc
    obtain ⟨_, F1, ⟨rfl, _⟩, _, F2, ⟨hF2, _⟩, hs2, _⟩ := h
    have := (hs2 b (by rw [hF2, hc]; simp)).2
    simp at this
  have hbld : Lib.IsBuilder 66 5 w.heap.size b (Lib.byteCells l) w' := by
    cases u with
    | false => exact .inl ⟨hB, _, h.obj, hown, hne⟩
    | true => exact .inr ⟨hB, _, h.obj, hown, hne⟩
  refine (Tryd.Builder_String_any w.heap.size b l w' hbld H.chg.size).mono ?_
  rintro e w2 ⟨rfl, hb⟩
  exact ⟨rfl, Owns.of_chg (Go.Fol.Below.chg ((H.chg.below (Nat.le_refl _) (by simp)).trans hb))⟩
end
end Go.Proofs.YtkgngcibjkkhkaaDoor
