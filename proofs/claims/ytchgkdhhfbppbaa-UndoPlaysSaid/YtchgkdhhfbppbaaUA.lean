/- undo: Add. -/
import Derived.Test.YtchgkdhhfbppbaaUH
namespace Go.Proofs.Ytchgkdhhfbppbaa
open Go Go.RowKit Go.Fol
attribute [local go_sem ↓] Go.wp_at_zero Go.wp_at_succ
set_option linter.unusedVariables false
set_option linter.unusedSimpArgs false
section
variable {w0 w : World} {R : List Asrt}
theorem uadd_none {p : Nat} {G : List Gr} {done : Nat} {v : Value} {n : Nat} {xs : List Value} (H : Owns w0 w (Asrt.hist p G done none :: R)) (hs : SrcV w 3 v n xs) :
    Calls Try.prog 10 #[.pointer (some ⟨p, 0, none⟩), v] w (Ret (.tuple #[]) w0 (Asrt.hist p G done none :: R)) := by
  obtain ⟨la, lc, rfl⟩ := hs.form
  obtain ⟨v, ov, h⟩ := histE H
  obtain ⟨rfl, h'⟩ := opnN (h.ord [3])
  have k2 : w.cell? ⟨p, 2, none⟩ = some (.pointer none) := h.cell (j := 2) rfl
  have H2 := Lib.hid H
  clear H h h'
  go_enter Try.func10, Try.ntmps10
  go_wp2_with fail
  go_end0
  exact ⟨rfl, H2.out⟩
theorem uadd {p : Nat} {G : List Gr} {done : Nat} {g : Gr} {v : Value} {L : List Ch} (H : Owns w0 w (Asrt.hist p G done (some g) :: R)) (hc : ChRd w0 R v L) (hok : OkL (datL L)) (hl : L.length ≤ 100000) (hg : g.L.length ≤ 100000) :
    Calls Try.prog 10 #[.pointer (some ⟨p, 0, none⟩), v] w (RetX (fun _ : Gr => .tuple #[]) w0 (fun g' => Asrt.pure (g'.dat = ((g.fl, g.fc), (g.tl, g.tc), datL g.L ++ datL L)) :: Asrt.hist p G done (some g') :: R)) := by
  obtain ⟨la, lc, rfl⟩ := (hc.row w H.drop).form
  obtain ⟨v, ov, h⟩ := histE H
  obtain ⟨o, rfl, h⟩ := opnS (h.ord [3])
  have k2 : w.cell? ⟨p, 2, none⟩ = some (.pointer (some ⟨o, 0, none⟩)) := (h.ord [3]).cell (j := 2) rfl
  have k4 : w.cell? ⟨o, 4, none⟩ = some (.slice g.ga g.L.length g.gc) := h.cell (j := 4) rfl
  have H2 := Lib.hid h
  have Hc := Lib.hid hc
  have Hok := Lib.hid hok
  clear H h hc hok
  go_enter Try.func10, Try.ntmps10
  go_wp2_with fail
  have h3 : Owns w0 w.drew (gobj o g :: row_chg g.lv g.L.length (chs g.L) :: chsA g.L :: hobj p v done (some ⟨o, 0, none⟩) :: grpvec v G :: grsA G :: R) := H2.out.drew
  clear H2
  refine wp_region_T (fun w' => w'.cell? ⟨p, 2, none⟩ = some (.pointer (some ⟨o, 0, none⟩)) ∧ w'.cell? ⟨o, 4, none⟩ = some (.slice g.ga g.L.length g.gc)) 16 (by kernel_rfl) ⟨(h3.ord [3]).cell (j := 2) rfl, h3.cell (j := 4) rfl⟩ (fun hS0 => ?_)
  refine wpAnyT_take (i := 0) (oi := _) (v := .pointer (some ⟨p, 0, none⟩)) [16] rfl (by kernel_rfl) (fun _ _ _ h => h) (Or.inl ⟨by rfl, fun w hSw => ?_⟩) hS0 ?_
  · obtain ⟨x0, x1⟩ := hSw; go_simp
  try simp only [Act.put, List.setIfInBounds_toArray, List.set_cons_zero, List.set_cons_succ, List.getElem_toArray, List.getElem_cons_zero, List.getElem_cons_succ]
  refine wpAnyT_take (i := 1) (oi := _) (v := .pointer (some ⟨p, 0, none⟩)) [16] rfl (by kernel_rfl) (fun _ _ _ h => h) (Or.inl ⟨by rfl, fun w hSw => ?_⟩) hS0 ?_
  · obtain ⟨x0, x1⟩ := hSw; go_simp
  try simp only [Act.put, List.setIfInBounds_toArray, List.set_cons_zero, List.set_cons_succ, List.getElem_toArray, List.getElem_cons_zero, List.getElem_cons_succ]
  refine wpAnyT_take (i := 2) (oi := _) (v := .pointer (some ⟨p, 2, none⟩)) [16] rfl (by kernel_rfl) (fun _ _ _ h => h) (Or.inl ⟨by rfl, fun w hSw => ?_⟩) hS0 ?_
  · obtain ⟨x0, x1⟩ := hSw; go_simp
  try simp only [Act.put, List.setIfInBounds_toArray, List.set_cons_zero, List.set_cons_succ, List.getElem_toArray, List.getElem_cons_zero, List.getElem_cons_succ]
  refine wpAnyT_take (i := 3) (oi := _) (v := .pointer (some ⟨o, 0, none⟩)) [16] rfl (by kernel_rfl) (fun _ _ _ h => h) (Or.inl ⟨by rfl, fun w hSw => ?_⟩) hS0 ?_
  · obtain ⟨x0, x1⟩ := hSw; go_simp
  try simp only [Act.put, List.setIfInBounds_toArray, List.set_cons_zero, List.set_cons_succ, List.getElem_toArray, List.getElem_cons_zero, List.getElem_cons_succ]
  refine wpAnyT_take (i := 4) (oi := _) (v := .pointer (some ⟨p, 0, none⟩)) [16] rfl (by kernel_rfl) (fun _ _ _ h => h) (Or.inl ⟨by rfl, fun w hSw => ?_⟩) hS0 ?_
  · obtain ⟨x0, x1⟩ := hSw; go_simp
  try simp only [Act.put, List.setIfInBounds_toArray, List.set_cons_zero, List.set_cons_succ, List.getElem_toArray, List.getElem_cons_zero, List.getElem_cons_succ]
  refine wpAnyT_take (i := 5) (oi := _) (v := .pointer (some ⟨p, 0, none⟩)) [16] rfl (by kernel_rfl) (fun _ _ _ h => h) (Or.inl ⟨by rfl, fun w hSw => ?_⟩) hS0 ?_
  · obtain ⟨x0, x1⟩ := hSw; go_simp
  try simp only [Act.put, List.setIfInBounds_toArray, List.set_cons_zero, List.set_cons_succ, List.getElem_toArray, List.getElem_cons_zero, List.getElem_cons_succ]
  refine wpAnyT_take (i := 6) (oi := _) (v := .pointer (some ⟨p, 2, none⟩)) [16] rfl (by kernel_rfl) (fun _ _ _ h => h) (Or.inl ⟨by rfl, fun w hSw => ?_⟩) hS0 ?_
  · obtain ⟨x0, x1⟩ := hSw; go_simp
  try simp only [Act.put, List.setIfInBounds_toArray, List.set_cons_zero, List.set_cons_succ, List.getElem_toArray, List.getElem_cons_zero, List.getElem_cons_succ]
  refine wpAnyT_take (i := 7) (oi := _) (v := .pointer (some ⟨o, 0, none⟩)) [16] rfl (by kernel_rfl) (fun _ _ _ h => h) (Or.inl ⟨by rfl, fun w hSw => ?_⟩) hS0 ?_
  · obtain ⟨x0, x1⟩ := hSw; go_simp
  try simp only [Act.put, List.setIfInBounds_toArray, List.set_cons_zero, List.set_cons_succ, List.getElem_toArray, List.getElem_cons_zero, List.getElem_cons_succ]
  refine wpAnyT_take (i := 8) (oi := _) (v := .pointer (some ⟨o, 0, none⟩)) [16] rfl (by kernel_rfl) (fun _ _ _ h => h) (Or.inl ⟨by rfl, fun w hSw => ?_⟩) hS0 ?_
  · obtain ⟨x0, x1⟩ := hSw; go_simp
  try simp only [Act.put, List.setIfInBounds_toArray, List.set_cons_zero, List.set_cons_succ, List.getElem_toArray, List.getElem_cons_zero, List.getElem_cons_succ]
  refine wpAnyT_take (i := 9) (oi := _) (v := .pointer (some ⟨o, 4, none⟩)) [16] rfl (by kernel_rfl) (fun _ _ _ h => h) (Or.inl ⟨by rfl, fun w hSw => ?_⟩) hS0 ?_
  · obtain ⟨x0, x1⟩ := hSw; go_simp
  try simp only [Act.put, List.setIfInBounds_toArray, List.set_cons_zero, List.set_cons_succ, List.getElem_toArray, List.getElem_cons_zero, List.getElem_cons_succ]
  refine wpAnyT_take (i := 10) (oi := _) (v := .slice g.ga g.L.length g.gc) [16] rfl (by kernel_rfl) (fun _ _ _ h => h) (Or.inl ⟨by rfl, fun w hSw => ?_⟩) hS0 ?_
  · obtain ⟨x0, x1⟩ := hSw; go_simp
  try simp only [Act.put, List.setIfInBounds_toArray, List.set_cons_zero, List.set_cons_succ, List.getElem_toArray, List.getElem_cons_zero, List.getElem_cons_succ]
  refine wpAnyT_take (i := 11) (oi := _) (v := .slice la L.length lc) [16] rfl (by kernel_rfl) (fun _ _ _ h => h) (Or.inl ⟨by rfl, fun w hSw => ?_⟩) hS0 ?_
  · obtain ⟨x0, x1⟩ := hSw; go_simp
  try simp only [Act.put, List.setIfInBounds_toArray, List.set_cons_zero, List.set_cons_succ, List.getElem_toArray, List.getElem_cons_zero, List.getElem_cons_succ]
  refine wpAnyT_step (i := 12) (o := _) rfl (by kernel_rfl) (fun K' hK => ?_)
  simp only [List.getElem_toArray, List.getElem_cons_zero, List.getElem_cons_succ]
  rw [if_pos (by rfl)]
  go_simp
  refine (uclone h3 Hc.out.cons.cons.cons.cons.cons.cons Hok.out hl).mono ?_
  rintro e w1 ⟨⟨v1, M⟩, rfl, h4⟩
  obtain ⟨hM, h4⟩ := h4.pureE
  dsimp only at hM h4 ⊢
  obtain ⟨ma, mc, rfl⟩ := row_slice h4.row
  refine hK.out _ _ ⟨(h4.ord [5]).cell (j := 2) rfl, (h4.ord [2]).cell (j := 4) rfl⟩ (fun hS1 => ?_)
  clear hK K' hS0
  have hMl : M.length = L.length := by have := congrArg List.length hM; simpa using this
  obtain ⟨s', w5, hrn, h5⟩ := app_chg (x := .slice ma M.length mc) (m := M.length) (vs := chs M) (h4.ord [3]) (Reads.row (e := 49) (by simp [ordL, takeAt])) (chs_one M) (by unfold maxLen; omega) (by omega)
  rw [show chs g.L ++ chs M = chs (g.L ++ M) from (flat_append ..).symm] at h5
  obtain ⟨sa, sc, rfl⟩ := row_slice h5.row
  have H5 := Lib.hid h5
  have HM := Lib.hid hM
  clear h4 h5 hM h3 hMl
  try simp only [Act.put, List.setIfInBounds_toArray, List.set_cons_zero, List.set_cons_succ, List.getElem_toArray, List.getElem_cons_zero, List.getElem_cons_succ]
  refine wpAnyT_step (i := 13) (o := _) rfl (by kernel_rfl) (fun K' hK => ?_)
  simp only [List.getElem_toArray, List.getElem_cons_zero, List.getElem_cons_succ]
  rw [if_pos (by rfl)]
  refine wp_append_run (.tmp 19) (.tmp 21) 30 30 (.slice g.ga g.L.length g.gc) (.slice ma M.length mc) (hrn 30) rfl rfl rfl ?_
  refine hK.out _ _ ⟨(H5.out.ord [5]).cell (j := 2) rfl, (H5.out.ord [3]).cell (j := 4) rfl⟩ (fun hS2 => ?_)
  clear hK K' hS1
  have k5 : w5.cell? ⟨o, 4, none⟩ = some (.slice g.ga g.L.length g.gc) := (H5.out.ord [3]).cell (j := 4) rfl
  have f5 := (H5.out.ord [3]).frozen 4
  clear hrn
  try simp only [Act.put, List.setIfInBounds_toArray, List.set_cons_zero, List.set_cons_succ, List.getElem_toArray, List.getElem_cons_zero, List.getElem_cons_succ]
  refine wpAnyT_take (i := 14) (oi := _) (v := .pointer (some ⟨o, 0, none⟩)) [15, 16] rfl (by kernel_rfl) (fun _ _ _ h => h) (Or.inl ⟨by rfl, fun w hSw => ?_⟩) hS2 ?_
  · obtain ⟨x0, x1⟩ := hSw; go_simp
  try simp only [Act.put, List.setIfInBounds_toArray, List.set_cons_zero, List.set_cons_succ, List.getElem_toArray, List.getElem_cons_zero, List.getElem_cons_succ]
  refine wpAnyT_take (i := 15) (oi := _) (v := .pointer (some ⟨o, 4, none⟩)) [16] rfl (by kernel_rfl) (fun _ _ _ h => h) (Or.inl ⟨by rfl, fun w hSw => ?_⟩) hS2 ?_
  · obtain ⟨x0, x1⟩ := hSw; go_simp
  try simp only [Act.put, List.setIfInBounds_toArray, List.set_cons_zero, List.set_cons_succ, List.getElem_toArray, List.getElem_cons_zero, List.getElem_cons_succ]
  refine wpAnyT_last (i := 16) (o := _) rfl (by kernel_rfl) (by kernel_rfl) (fun K' hK => ?_)
  simp only [List.getElem_toArray, List.getElem_cons_zero, List.getElem_cons_succ]
  rw [if_pos (by rfl)]
  go_simp
  refine hK.out _ _ (wpAnyT_done (by kernel_rfl) ?_ _)
  dsimp only [Whole]
  have h7 := (H5.out.ord [3]).set 4 (.slice sa (g.L.length + M.length) sc)
  have h8 := (chsA_append ((h7.ord [2]).drop.ord [3, 2])).ord [1, 1]
  rw [← List.length_append] at h8
  have h9 : Owns w0 _ (gobj o ⟨g.fl, g.fc, g.tl, g.tc, sa, sc, g.L ++ M⟩ :: row_chg (.slice sa (g.L ++ M).length sc) (g.L ++ M).length (chs (g.L ++ M)) :: chsA (g.L ++ M) :: hobj p v done (some ⟨o, 0, none⟩) :: grpvec v G :: grsA G :: R) := h8
  have h10 := histI ((opnSI (g := ⟨g.fl, g.fc, g.tl, g.tc, sa, sc, g.L ++ M⟩) h9).ord [1, 1, 1])
  rw [List.length_append] at h10
  have H10 := Lib.hid h10
  clear h7 h8 h9 h10 H5 hS2 k5 f5
  go_wp2_with fail
  go_end0
  exact ⟨⟨g.fl, g.fc, g.tl, g.tc, sa, sc, g.L ++ M⟩, rfl, H10.out.pureI (by simp [Gr.dat, datL, ← HM.out])⟩
end
end Go.Proofs.Ytchgkdhhfbppbaa
