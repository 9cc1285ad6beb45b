/- The document's Commit. -/
import Derived.Test.YtchgkdhhfbppbaaUQ
import Derived.BigRegion
import Derived.Test.YtchgkdhhfbppbaaHeldIn3
import Derived.Deep.RegionLaw
namespace Go.Proofs.Ytchgkdhhfbppbaa
open Go Go.RowKit Go.Fol
attribute [local go_sem ↓] Go.wp_at_zero Go.wp_at_succ
set_option linter.unusedVariables false
set_option linter.unusedSimpArgs false
section
variable {w0 w : World} {R : List Asrt}
theorem rgsA_snoc {D : List Gr} {g : Gr} (H : Owns w0 w (rgA g :: rgsA D :: R)) : Owns w0 w (rgsA (D ++ [g]) :: R) := by
  refine Owns.allI (L := (D ++ [g]).map rgA) ?_
  have h := Owns.allE (L := D.map rgA) H.p1
  rw [List.map_append, List.append_assoc]
  exact h
theorem rgsA_tail {D : List Gr} {g : Gr} (H : Owns w0 w (rgsA (g :: D) :: R)) : Owns w0 w (rgsA D :: R) := by
  have h := Owns.allE (L := rgA g :: D.map rgA) H
  exact Owns.allI (L := D.map rgA) (Owns.drop (A := rgA g) h)
set_option maxHeartbeats 4000000 in
theorem rcommit {p : Nat} {D U D' : List Gr} {g : Gr} (l c : Int) (hD' : D' = (D ++ [{ g with tl := l, tc := c }]).drop (D.length - 15)) (hg : 0 < g.L.length) (hgl : g.L.length ≤ 100000) (hD : D.length ≤ 16) (H : Owns w0 w (rhistO p D U g :: R)) :
    Calls Try.prog 13 #[.pointer (some ⟨p, 0, none⟩), .agg #[.int .i64 l, .int .i64 c]] w (Ret (.bool true) w0 (rhistN p D' [] :: R)) := by
  have HD' := Lib.hid hD'
  clear hD'
  obtain ⟨da, ua, dc, uc, h⟩ := rhistOE H
  obtain ⟨dl, hdl⟩ : ∃ dl, dl = D.length := ⟨_, rfl⟩
  have h1 := (h.alloc #[.int .i64 l, .int .i64 c] 29).p1
  obtain ⟨gl, hgl2⟩ : ∃ gl, gl = g.L.length := ⟨_, rfl⟩
  obtain ⟨ga, hga⟩ : ∃ ga, ga = g.ga := ⟨_, rfl⟩
  obtain ⟨gc, hgc⟩ : ∃ gc, gc = g.gc := ⟨_, rfl⟩
  have hgv : g.lv = .slice ga gl gc := by rw [hgl2, hga, hgc]
  obtain ⟨W, hW⟩ : ∃ W, W = w.alloc (.cells #[.int .i64 l, .int .i64 c] 29) := ⟨_, rfl⟩
  obtain ⟨B, hB⟩ : ∃ B, B = w.heap.size := ⟨_, rfl⟩
  rw [← hW, ← hB] at h1
  have b0 : W.cell? ⟨B, 0, none⟩ = some (.int .i64 l) := h1.p1.cell (j := 0) rfl
  have b1 : W.cell? ⟨B, 1, none⟩ = some (.int .i64 c) := h1.p1.cell (j := 1) rfl
  have k2 : W.cell? ⟨p, 2, none⟩ = some (.bool true) := h1.cell (j := 2) rfl
  have f2 := h1.frozen 2
  have h2 := h1.set 2 (.bool false)
  obtain ⟨W2, hW2⟩ : ∃ W2, W2 = W.setCell ⟨p, 2, none⟩ (.bool false) := ⟨_, rfl⟩
  rw [← hW2] at h2
  have c0 : W2.cell? ⟨B, 0, none⟩ = some (.int .i64 l) := h2.p1.cell (j := 0) rfl
  have c1 : W2.cell? ⟨B, 1, none⟩ = some (.int .i64 c) := h2.p1.cell (j := 1) rfl
  have k7 : W2.cell? ⟨p, 7, none⟩ = some (.slice ga gl gc) := by rw [← hgv]; exact h2.cell (j := 7) rfl
  have k5 : W2.cell? ⟨p, 5, none⟩ = some (.int .i64 g.tl) := h2.cell (j := 5) rfl
  have k6 : W2.cell? ⟨p, 6, none⟩ = some (.int .i64 g.tc) := h2.cell (j := 6) rfl
  have f5 := h2.frozen 5
  have f6 := h2.frozen 6
  have h3 := (h2.set 5 (.int .i64 l)).set 6 (.int .i64 c)
  obtain ⟨W3, hW3⟩ : ∃ W3, W3 = (W2.setCell ⟨p, 5, none⟩ (.int .i64 l)).setCell ⟨p, 6, none⟩ (.int .i64 c) := ⟨_, rfl⟩
  rw [← hW3] at h3
  have H3 := Lib.hid h3
  have HW := Lib.hid hW
  have HW2 := Lib.hid hW2
  have HW3 := Lib.hid hW3
  have HB := Lib.hid hB
  have Hgv := Lib.hid hgv
  have Hdl := Lib.hid hdl
  have hgz : ((gl : Int) == 0) = false := beq_eq_false_iff_ne.2 (by omega)
  clear H h h1 h2 h3 hW hW2 hW3 hB hgv hdl hgl2 hga hgc
  go_enter Try.func13, Try.ntmps13
  go_upto_region 1 with (fail)
  rw [← HB.out, ← HW.out]
  go_upto_region 4 with (fail)
  rw [← HW2.out]
  go_upto_region 7 with (fail)
  rw [← HW3.out]
  have h3 := H3.out
  have d0 : W3.cell? ⟨p, 0, none⟩ = some (.slice da dl dc) := by rw [Hdl.out]; exact h3.cell (j := 0) rfl
  have d1 : W3.cell? ⟨p, 1, none⟩ = some (.slice ua U.length uc) := h3.cell (j := 1) rfl
  have d3 : W3.cell? ⟨p, 3, none⟩ = some (.int .i64 g.fl) := h3.cell (j := 3) rfl
  have d4 : W3.cell? ⟨p, 4, none⟩ = some (.int .i64 g.fc) := h3.cell (j := 4) rfl
  have d5 : W3.cell? ⟨p, 5, none⟩ = some (.int .i64 l) := h3.cell (j := 5) rfl
  have d6 : W3.cell? ⟨p, 6, none⟩ = some (.int .i64 c) := h3.cell (j := 6) rfl
  have d7 : W3.cell? ⟨p, 7, none⟩ = some (.slice ga gl gc) := by rw [← Hgv.out]; exact h3.cell (j := 7) rfl
  have h4 := (h3.drew.alloc #[.int .i64 g.fl, .int .i64 g.fc, .int .i64 l, .int .i64 c, .slice ga gl gc] 32)
  have hs4 := SrcV.fullCap (h4.ord [4]).src
  have hdc : dl ≤ dc := by have := (h3.ord [3]).src.capLe; rw [Hdl.out]; exact this
  obtain ⟨i0, hi, hz0, hz1, hz2⟩ := info_parts info_rgp
  obtain ⟨s', w5, hrn, h5⟩ := Owns.appFull (P := Try.prog) Try.underlying27 hi hz0 hz1 hz2 rfl (by decide) h4 hs4 (Reads.obj (w0 := w0) (R := _) (b := W3.drew.heap.size) (k := 5) (n := 1) (c := 1) (t := 32) (f := (0, 0)) (cs := #[.int .i64 g.fl, .int .i64 g.fc, .int .i64 l, .int .i64 c, .slice ga gl gc]) List.mem_cons_self (by decide) (by decide) (by simp) _ h4) (by decide) (by simp [Value.oneCell']) (by unfold maxLen; omega) (by omega)
  obtain ⟨sa, sc, rfl⟩ := row_slice h5.row
  rw [← Hdl.out] at hrn
  have h6 := h5.ord [2]
  have e0 : w5.cell? ⟨p, 0, none⟩ = some (.slice da dl dc) := by rw [Hdl.out]; exact h6.cell (j := 0) rfl
  have e1 : w5.cell? ⟨p, 1, none⟩ = some (.slice ua U.length uc) := h6.cell (j := 1) rfl
  have e3 : w5.cell? ⟨p, 3, none⟩ = some (.int .i64 g.fl) := h6.cell (j := 3) rfl
  have e4 : w5.cell? ⟨p, 4, none⟩ = some (.int .i64 g.fc) := h6.cell (j := 4) rfl
  have e5 : w5.cell? ⟨p, 5, none⟩ = some (.int .i64 l) := h6.cell (j := 5) rfl
  have e6 : w5.cell? ⟨p, 6, none⟩ = some (.int .i64 c) := h6.cell (j := 6) rfl
  have e7 : w5.cell? ⟨p, 7, none⟩ = some (.slice ga gl gc) := by rw [← Hgv.out]; exact h6.cell (j := 7) rfl
  have f0 := h6.frozen 0
  have f1 := h6.frozen 1
  have d0a := cell_alloc d0 (.cells #[.int .i64 g.fl, .int .i64 g.fc, .int .i64 l, .int .i64 c, .slice ga gl gc] 32)
  have h7 := (h6.set 0 (.slice sa (dl + 1) sc)).set 1 (.slice none 0 0)
  have g0 : ((w5.setCell ⟨p, 0, none⟩ (.slice sa (dl + 1) sc)).setCell ⟨p, 1, none⟩ (.slice none 0 0)).cell? ⟨p, 0, none⟩ = some (.slice sa (dl + 1) sc) := h7.cell (j := 0) rfl
  have H7 := Lib.hid h7
  clear h3 h4 hs4 hi hz0 hz1 hz2 h5 h6 h7 b0 b1 k2 f2 c0 c1 k7 k5 k6 f5 f6 H3
  have hr1 : ∀ ty, (Builtin.append_ #[27, 27] ty #[.slice da dl dl, .slice (some ⟨W3.heap.size, 0, none⟩) 1 1]).run Try.prog ((W3.alloc (.cells #[.int .i64 g.fl, .int .i64 g.fc, .int .i64 l, .int .i64 c, .slice ga gl gc] 32)).drew) = .ok (.slice sa (dl + 1) sc) w5 := fun ty => hrn ty
  refine wp_region_T (fun w' => w'.cell? ⟨p, 0, none⟩ = some (.slice da dl dc) ∧ w'.cell? ⟨p, 3, none⟩ = some (.int .i64 g.fl) ∧ w'.cell? ⟨p, 4, none⟩ = some (.int .i64 g.fc) ∧ w'.cell? ⟨p, 5, none⟩ = some (.int .i64 l) ∧ w'.cell? ⟨p, 6, none⟩ = some (.int .i64 c) ∧ w'.cell? ⟨p, 7, none⟩ = some (.slice ga gl gc)) 25 (by kernel_rfl) ⟨d0, d3, d4, d5, d6, d7⟩ (fun hS0 => ?_)
  refine wpAnyT_takeP (i := 1) (oi := _) (v := .pointer (some ⟨p, 0, none⟩)) rfl (by kernel_rfl) (fun _ _ _ h => h) (Or.inl ⟨by rfl, fun w hSw => ?_⟩) hS0 ?_
  · go_simp
  try simp only [Act.put, List.setIfInBounds_toArray, List.set_cons_zero, List.set_cons_succ, List.getElem_toArray, List.getElem_cons_zero, List.getElem_cons_succ]
  refine wpAnyT_take (i := 0) (oi := _) (v := .pointer (some ⟨p, 0, none⟩)) [25] rfl (by kernel_rfl) (fun _ _ _ h => h) (Or.inl ⟨by rfl, fun w hSw => ?_⟩) hS0 ?_
  · obtain ⟨x0, x1, x2, x3, x4, x5⟩ := hSw; go_simp
  try simp only [Act.put, List.setIfInBounds_toArray, List.set_cons_zero, List.set_cons_succ, List.getElem_toArray, List.getElem_cons_zero, List.getElem_cons_succ]
  refine wpAnyT_take (i := 2) (oi := _) (v := .pointer (some ⟨p, 0, none⟩)) [25] rfl (by kernel_rfl) (fun _ _ _ h => h) (Or.inl ⟨by rfl, fun w hSw => ?_⟩) hS0 ?_
  · obtain ⟨x0, x1, x2, x3, x4, x5⟩ := hSw; go_simp
  try simp only [Act.put, List.setIfInBounds_toArray, List.set_cons_zero, List.set_cons_succ, List.getElem_toArray, List.getElem_cons_zero, List.getElem_cons_succ]
  refine wpAnyT_take (i := 3) (oi := _) (v := .pointer (some ⟨p, 0, none⟩)) [25] rfl (by kernel_rfl) (fun _ _ _ h => h) (Or.inl ⟨by rfl, fun w hSw => ?_⟩) hS0 ?_
  · obtain ⟨x0, x1, x2, x3, x4, x5⟩ := hSw; go_simp
  try simp only [Act.put, List.setIfInBounds_toArray, List.set_cons_zero, List.set_cons_succ, List.getElem_toArray, List.getElem_cons_zero, List.getElem_cons_succ]
  refine wpAnyT_take (i := 4) (oi := _) (v := .pointer (some ⟨p, 0, none⟩)) [25] rfl (by kernel_rfl) (fun _ _ _ h => h) (Or.inl ⟨by rfl, fun w hSw => ?_⟩) hS0 ?_
  · obtain ⟨x0, x1, x2, x3, x4, x5⟩ := hSw; go_simp
  try simp only [Act.put, List.setIfInBounds_toArray, List.set_cons_zero, List.set_cons_succ, List.getElem_toArray, List.getElem_cons_zero, List.getElem_cons_succ]
  refine wpAnyT_take (i := 5) (oi := _) (v := .slice da dl dc) [25] rfl (by kernel_rfl) (fun _ _ _ h => h) (Or.inl ⟨by rfl, fun w hSw => ?_⟩) hS0 ?_
  · obtain ⟨x0, x1, x2, x3, x4, x5⟩ := hSw; go_simp
  try simp only [Act.put, List.setIfInBounds_toArray, List.set_cons_zero, List.set_cons_succ, List.getElem_toArray, List.getElem_cons_zero, List.getElem_cons_succ]
  refine wpAnyT_take (i := 6) (oi := _) (v := .pointer (some ⟨p, 0, none⟩)) [25] rfl (by kernel_rfl) (fun _ _ _ h => h) (Or.inl ⟨by rfl, fun w hSw => ?_⟩) hS0 ?_
  · obtain ⟨x0, x1, x2, x3, x4, x5⟩ := hSw; go_simp
  try simp only [Act.put, List.setIfInBounds_toArray, List.set_cons_zero, List.set_cons_succ, List.getElem_toArray, List.getElem_cons_zero, List.getElem_cons_succ]
  refine wpAnyT_take (i := 7) (oi := _) (v := .pointer (some ⟨p, 0, none⟩)) [25] rfl (by kernel_rfl) (fun _ _ _ h => h) (Or.inl ⟨by rfl, fun w hSw => ?_⟩) hS0 ?_
  · obtain ⟨x0, x1, x2, x3, x4, x5⟩ := hSw; go_simp
  try simp only [Act.put, List.setIfInBounds_toArray, List.set_cons_zero, List.set_cons_succ, List.getElem_toArray, List.getElem_cons_zero, List.getElem_cons_succ]
  refine wpAnyT_take (i := 8) (oi := _) (v := .pointer (some ⟨p, 0, none⟩)) [25] rfl (by kernel_rfl) (fun _ _ _ h => h) (Or.inl ⟨by rfl, fun w hSw => ?_⟩) hS0 ?_
  · obtain ⟨x0, x1, x2, x3, x4, x5⟩ := hSw; go_simp
  try simp only [Act.put, List.setIfInBounds_toArray, List.set_cons_zero, List.set_cons_succ, List.getElem_toArray, List.getElem_cons_zero, List.getElem_cons_succ]
  refine wpAnyT_take (i := 9) (oi := _) (v := .slice da dl dc) [25] rfl (by kernel_rfl) (fun _ _ _ h => h) (Or.inl ⟨by rfl, fun w hSw => ?_⟩) hS0 ?_
  · obtain ⟨x0, x1, x2, x3, x4, x5⟩ := hSw; go_simp
  try simp only [Act.put, List.setIfInBounds_toArray, List.set_cons_zero, List.set_cons_succ, List.getElem_toArray, List.getElem_cons_zero, List.getElem_cons_succ]
  refine wpAnyT_take (i := 10) (oi := _) (v := .int .i64 dl) [25] rfl (by kernel_rfl) (fun _ _ _ h => h) (Or.inl ⟨by rfl, fun w hSw => ?_⟩) hS0 ?_
  · obtain ⟨x0, x1, x2, x3, x4, x5⟩ := hSw; go_simp
  try simp only [Act.put, List.setIfInBounds_toArray, List.set_cons_zero, List.set_cons_succ, List.getElem_toArray, List.getElem_cons_zero, List.getElem_cons_succ]
  refine wpAnyT_take (i := 11) (oi := _) (v := .pointer (some ⟨p, 0, none⟩)) [25] rfl (by kernel_rfl) (fun _ _ _ h => h) (Or.inl ⟨by rfl, fun w hSw => ?_⟩) hS0 ?_
  · obtain ⟨x0, x1, x2, x3, x4, x5⟩ := hSw; go_simp
  try simp only [Act.put, List.setIfInBounds_toArray, List.set_cons_zero, List.set_cons_succ, List.getElem_toArray, List.getElem_cons_zero, List.getElem_cons_succ]
  refine wpAnyT_take (i := 12) (oi := _) (v := .pointer (some ⟨p, 0, none⟩)) [25] rfl (by kernel_rfl) (fun _ _ _ h => h) (Or.inl ⟨by rfl, fun w hSw => ?_⟩) hS0 ?_
  · obtain ⟨x0, x1, x2, x3, x4, x5⟩ := hSw; go_simp
  try simp only [Act.put, List.setIfInBounds_toArray, List.set_cons_zero, List.set_cons_succ, List.getElem_toArray, List.getElem_cons_zero, List.getElem_cons_succ]
  refine wpAnyT_take (i := 13) (oi := _) (v := .pointer (some ⟨p, 0, none⟩)) [25] rfl (by kernel_rfl) (fun _ _ _ h => h) (Or.inl ⟨by rfl, fun w hSw => ?_⟩) hS0 ?_
  · obtain ⟨x0, x1, x2, x3, x4, x5⟩ := hSw; go_simp
  try simp only [Act.put, List.setIfInBounds_toArray, List.set_cons_zero, List.set_cons_succ, List.getElem_toArray, List.getElem_cons_zero, List.getElem_cons_succ]
  refine wpAnyT_take (i := 14) (oi := _) (v := .slice da dl dc) [25] rfl (by kernel_rfl) (fun _ _ _ h => h) (Or.inl ⟨by rfl, fun w hSw => ?_⟩) hS0 ?_
  · obtain ⟨x0, x1, x2, x3, x4, x5⟩ := hSw; go_simp
  try simp only [Act.put, List.setIfInBounds_toArray, List.set_cons_zero, List.set_cons_succ, List.getElem_toArray, List.getElem_cons_zero, List.getElem_cons_succ]
  refine wpAnyT_take (i := 15) (oi := _) (v := .int .i64 dl) [25] rfl (by kernel_rfl) (fun _ _ _ h => h) (Or.inl ⟨by rfl, fun w hSw => ?_⟩) hS0 ?_
  · obtain ⟨x0, x1, x2, x3, x4, x5⟩ := hSw; go_simp
  try simp only [Act.put, List.setIfInBounds_toArray, List.set_cons_zero, List.set_cons_succ, List.getElem_toArray, List.getElem_cons_zero, List.getElem_cons_succ]
  refine wpAnyT_take (i := 16) (oi := _) (v := .slice da dl dl) [25] rfl (by kernel_rfl) (fun _ _ _ h => h) (Or.inl ⟨by rfl, fun w hSw => ?_⟩) hS0 ?_
  · obtain ⟨x0, x1, x2, x3, x4, x5⟩ := hSw; go_simp
  try simp only [Act.put, List.setIfInBounds_toArray, List.set_cons_zero, List.set_cons_succ, List.getElem_toArray, List.getElem_cons_zero, List.getElem_cons_succ]
  refine wpAnyT_take (i := 17) (oi := _) (v := .pointer (some ⟨p, 0, none⟩)) [25] rfl (by kernel_rfl) (fun _ _ _ h => h) (Or.inl ⟨by rfl, fun w hSw => ?_⟩) hS0 ?_
  · obtain ⟨x0, x1, x2, x3, x4, x5⟩ := hSw; go_simp
  try simp only [Act.put, List.setIfInBounds_toArray, List.set_cons_zero, List.set_cons_succ, List.getElem_toArray, List.getElem_cons_zero, List.getElem_cons_succ]
  refine wpAnyT_take (i := 18) (oi := _) (v := .pointer (some ⟨p, 0, none⟩)) [25] rfl (by kernel_rfl) (fun _ _ _ h => h) (Or.inl ⟨by rfl, fun w hSw => ?_⟩) hS0 ?_
  · obtain ⟨x0, x1, x2, x3, x4, x5⟩ := hSw; go_simp
  try simp only [Act.put, List.setIfInBounds_toArray, List.set_cons_zero, List.set_cons_succ, List.getElem_toArray, List.getElem_cons_zero, List.getElem_cons_succ]
  refine wpAnyT_take (i := 19) (oi := _) (v := .pointer (some ⟨p, 3, none⟩)) [25] rfl (by kernel_rfl) (fun _ _ _ h => h) (Or.inl ⟨by rfl, fun w hSw => ?_⟩) hS0 ?_
  · obtain ⟨x0, x1, x2, x3, x4, x5⟩ := hSw; go_simp
  try simp only [Act.put, List.setIfInBounds_toArray, List.set_cons_zero, List.set_cons_succ, List.getElem_toArray, List.getElem_cons_zero, List.getElem_cons_succ]
  refine wpAnyT_take (i := 20) (oi := _) (v := .agg #[.int .i64 g.fl, .int .i64 g.fc, .int .i64 l, .int .i64 c, .slice ga gl gc]) [25] rfl (by kernel_rfl) (fun _ _ _ h => h) (Or.inl ⟨by rfl, fun w hSw => ?_⟩) hS0 ?_
  · obtain ⟨x0, x1, x2, x3, x4, x5⟩ := hSw; go_simp
  try simp only [Act.put, List.setIfInBounds_toArray, List.set_cons_zero, List.set_cons_succ, List.getElem_toArray, List.getElem_cons_zero, List.getElem_cons_succ]
  refine wpAnyT_step (i := 21) (o := _) rfl (by kernel_rfl) (fun K' hK => ?_)
  simp only [List.getElem_toArray, List.getElem_cons_zero, List.getElem_cons_succ]
  rw [if_pos (by rfl)]
  go_simp
  refine hK.out _ _ ⟨d0a, (cell_alloc d3 _), (cell_alloc d4 _), (cell_alloc d5 _), (cell_alloc d6 _), (cell_alloc d7 _)⟩ (fun hS1 => ?_)
  clear hK K' hS0
  try simp only [Act.put, List.setIfInBounds_toArray, List.set_cons_zero, List.set_cons_succ, List.getElem_toArray, List.getElem_cons_zero, List.getElem_cons_succ]
  refine wpAnyT_step (i := 22) (o := _) rfl (by kernel_rfl) (fun K' hK => ?_)
  simp only [List.getElem_toArray, List.getElem_cons_zero, List.getElem_cons_succ]
  rw [if_pos (by rfl)]
  refine wp_append_run (.tmp 41) (.tmp 46) 27 27 (.slice da dl dl) (.slice (some ⟨W3.heap.size, 0, none⟩) 1 1) (hr1 27) rfl rfl rfl ?_
  refine hK.out _ _ ⟨e0, e3, e4, e5, e6, e7⟩ (fun hS2 => ?_)
  clear hK K' hS1
  try simp only [Act.put, List.setIfInBounds_toArray, List.set_cons_zero, List.set_cons_succ, List.getElem_toArray, List.getElem_cons_zero, List.getElem_cons_succ]
  refine wpAnyT_take (i := 23) (oi := _) (v := .pointer (some ⟨p, 0, none⟩)) [24, 25] rfl (by kernel_rfl) (fun _ _ _ h => h) (Or.inl ⟨by rfl, fun w hSw => ?_⟩) hS2 ?_
  · obtain ⟨x0, x1, x2, x3, x4, x5⟩ := hSw; go_simp
  try simp only [Act.put, List.setIfInBounds_toArray, List.set_cons_zero, List.set_cons_succ, List.getElem_toArray, List.getElem_cons_zero, List.getElem_cons_succ]
  refine wpAnyT_take (i := 24) (oi := _) (v := .pointer (some ⟨p, 0, none⟩)) [25] rfl (by kernel_rfl) (fun _ _ _ h => h) (Or.inl ⟨by rfl, fun w hSw => ?_⟩) hS2 ?_
  · obtain ⟨x0, x1, x2, x3, x4, x5⟩ := hSw; go_simp
  try simp only [Act.put, List.setIfInBounds_toArray, List.set_cons_zero, List.set_cons_succ, List.getElem_toArray, List.getElem_cons_zero, List.getElem_cons_succ]
  refine wpAnyT_last (i := 25) (o := _) rfl (by kernel_rfl) (by kernel_rfl) (fun K' hK => ?_)
  simp only [List.getElem_toArray, List.getElem_cons_zero, List.getElem_cons_succ]
  rw [if_pos (by rfl)]
  go_simp
  refine hK.out _ _ ?_
  clear hK K'
  try simp only [Act.put, List.setIfInBounds_toArray, List.set_cons_zero, List.set_cons_succ, List.getElem_toArray, List.getElem_cons_zero, List.getElem_cons_succ]
  refine wpAnyT_last (i := 26) (o := _) rfl (by kernel_rfl) (by kernel_rfl) (fun K' hK => ?_)
  simp only [List.getElem_toArray, List.getElem_cons_zero, List.getElem_cons_succ]
  rw [if_pos (by rfl)]
  go_simp
  refine hK.out _ _ ?_
  clear hK K'
  try simp only [Act.put, List.setIfInBounds_toArray, List.set_cons_zero, List.set_cons_succ, List.getElem_toArray, List.getElem_cons_zero, List.getElem_cons_succ]
  refine wpAnyT_last (i := 27) (o := _) rfl (by kernel_rfl) (by kernel_rfl) (fun K' hK => ?_)
  simp only [List.getElem_toArray, List.getElem_cons_zero, List.getElem_cons_succ]
  rw [if_pos (by rfl)]
  go_simp
  refine hK.out _ _ ?_
  clear hK K'
  try simp only [Act.put, List.setIfInBounds_toArray, List.set_cons_zero, List.set_cons_succ, List.getElem_toArray, List.getElem_cons_zero, List.getElem_cons_succ]
  refine wpAnyT_last (i := 28) (o := _) rfl (by kernel_rfl) (by kernel_rfl) (fun K' hK => ?_)
  simp only [List.getElem_toArray, List.getElem_cons_zero, List.getElem_cons_succ]
  rw [if_pos (by rfl)]
  go_simp
  refine hK.out _ _ (wpAnyT_done (by kernel_rfl) ?_ _)
  dsimp only [Whole]
  clear hK K' hS2 hr1 hrn d0 d1 d3 d4 d5 d6 d7 d0a e0 e1 e3 e4 e5 e6 e7 f0 f1 HW HW2 HW3 HB
  have h7 := H7.out
  clear H7
  obtain ⟨W7, hW7⟩ : ∃ W7, W7 = (w5.setCell ⟨p, 0, none⟩ (.slice sa (dl + 1) sc)).setCell ⟨p, 1, none⟩ (.slice none 0 0) := ⟨_, rfl⟩
  rw [← hW7] at h7 g0 ⊢
  clear hW7
  rw [← Hgv.out] at h7
  have h8 : Owns w0 W7 (robj p (.slice sa (dl + 1) sc) (.slice none 0 0) false { g with tl := l, tc := c } :: Asrt.row 32 5 (.slice sa (D.length + 1) sc) (D.length + 1) (grs D ++ grs [{ g with tl := l, tc := c }]) :: _) := h7
  rw [← flat_append] at h8
  have h9 := ((((((h8.ord [1]).srcOfRow (by decide)).ord [2, 2, 3, 3, 4]).drop.drop.drop.drop.drop).ord [2, 2]))
  have h10 := (rgsA_snoc (g := { g with tl := l, tc := c }) h9).ord [2, 1, 0]
  have f0 := h10.frozen 0
  have hsc : D.length + 1 ≤ sc := (h10.ord [1]).src.capLe
  have e10 := Hdl.out
  rw [← e10] at h10 hsc
  have H10 := Lib.hid h10
  clear h7 h8 h9 h10
  by_cases h16 : dl < 16
  · have hd1 : ¬ ((16 : Int) < (dl : Int) + 1) := by omega
    clear e10
    go_wp2_with fail
    go_ret
    have h11 := (Owns.srcNil (k := 5) (Owns.allI (L := []) H10.out)).ord [2, 2, 0, 1, 0]
    have e11 : D' = D ++ [{ g with tl := l, tc := c }] := by
      rw [HD'.out, ← Hdl.out, show dl - 15 = 0 by omega, List.drop_zero]
    have e12 : dl + 1 = (D ++ [{ g with tl := l, tc := c }]).length := by rw [List.length_append, ← Hdl.out]; rfl
    refine ⟨rfl, ?_⟩
    rw [e11]
    rw [e12] at h11
    exact rhistNI (g := { g with tl := l, tc := c }) h11
  · have hd16 : dl = 16 := by omega
    subst hd16
    have hc1 : ¬ sc = 1 := by omega
    clear e10
    obtain ⟨b, off, c', e1, _, _, _⟩ := (H10.out.ord [1]).src.cells (by omega) (by decide)
    cases e1
    go_wp2_with fail
    go_ret
    have h11 := (H10.out.set 0 (.slice (some ⟨b, off + 5, none⟩) 16 (sc - 1))).p1
    have hsl := h11.src.sliced (i := 1) (j := 17) (by omega) (by omega) (by decide)
    have e13 : Go.sliced (some ⟨b, off, none⟩) 1 (16 + 1) sc 5 = .slice (some ⟨b, off + 5, none⟩) 16 (sc - 1) := by
      unfold Go.sliced
      rw [if_neg hc1]
      rfl
    rw [e13] at hsl
    have h12 := h11.srcSub (v' := .slice (some ⟨b, off + 5, none⟩) 16 (sc - 1)) (n' := 16) rfl (by omega) hsl
    have hDl := Hdl.out
    match D, hDl, h12, HD'.out with
    | d0 :: Dt, hDl, h12, e11 =>
      have hDt : Dt.length = 15 := by simp at hDl; omega
      have e11 : D' = Dt ++ [{ g with tl := l, tc := c }] := by rw [e11]; simp [hDt]
      have e14 : ((flat grf ((d0 :: Dt) ++ [{ g with tl := l, tc := c }])).drop (1 * 5)).take ((17 - 1) * 5) = grs (Dt ++ [{ g with tl := l, tc := c }]) := by
        rw [flat_drop grf_len, flat_take grf_len]
        simp only [List.cons_append, List.drop_succ_cons, List.drop_zero]
        rw [List.take_of_length_le (by simp [hDt])]
      rw [e14] at h12
      have e15 : 16 = (Dt ++ [{ g with tl := l, tc := c }]).length := by simp [hDt]
      have h13 := (rgsA_tail (h12.ord [2])).ord [2, 1, 0]
      have h14 := (Owns.srcNil (k := 5) (Owns.allI (L := []) h13)).ord [2, 2, 0, 1, 0]
      refine ⟨rfl, ?_⟩
      rw [e11]
      have h15 : Owns w0 _ (robj p (.slice (some ⟨b, off + 5, none⟩) 16 (sc - 1)) (.slice none 0 0) false { g with tl := l, tc := c } :: Asrt.src 5 (.slice (some ⟨b, off + 5, none⟩) 16 (sc - 1)) 16 (grs (Dt ++ [{ g with tl := l, tc := c }])) :: rlist (.slice none 0 0) [] :: rgsA (Dt ++ [{ g with tl := l, tc := c }]) :: rgsA [] :: R) := h14
      generalize W7.setCell ⟨p, 0, none⟩ _ = W8 at h15
      rw [e15] at h15
      exact rhistNI (g := { g with tl := l, tc := c }) h15
end
end Go.Proofs.Ytchgkdhhfbppbaa
