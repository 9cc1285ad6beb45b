/- The document's Add. -/
import Derived.Test.YtchgkdhhfbppbaaUP
import Derived.Test.YtchgkdhhfbppbaaRow
import Derived.Deep.Upon
namespace Go.Proofs.Ytchgkdhhfbppbaa
open Go Go.RowKit Go.Fol
attribute [local go_sem ↓] Go.wp_at_zero Go.wp_at_succ
set_option linter.unusedVariables false
set_option linter.unusedSimpArgs false
section
variable {w0 w : World} {R : List Asrt}
/-- append at full cap, of any source: a list of changes that is only read. -/
theorem rapp {a : Option Addr} {c n m : Nat} {x : Value} {xs vs : List Value} (H : Owns w0 w (Asrt.src 3 (.slice a n c) n xs :: R)) (hv : SrcV w 3 x m vs) (h1 : ∀ u ∈ vs, u.oneCell' = true) (h63 : n + m ≤ 1000000) :
    ∃ v' w', (∀ ty, (Builtin.append_ #[30, 30] ty #[.slice a n n, x]).run Try.prog w = .ok v' w') ∧ Owns w0 w' (Asrt.src 3 v' (n + m) (xs ++ vs) :: R) := by
  obtain ⟨i0, hi, hz0, hz1, hz2⟩ := info_parts info_chg
  have hs := H.src.fullCap
  by_cases hm : m = 0
  · subst hm
    have hvs : vs = [] := List.eq_nil_of_length_eq_zero (by have := hv.len; omega)
    subst hvs
    refine ⟨.slice a n n, w, fun ty => ?_, ?_⟩
    · rcases hv with ⟨rfl, _, _⟩ | ⟨ax, cx, rfl, _⟩
      · cases a <;> simp [Builtin.append_, run_underlying Try.underlying30, sizeOf, typeInfo, hi, Builtin.lenOf, Builtin.firstCells, storeCells, loadCells, loadCellsFrom]
      · cases a <;> simp [Builtin.append_, run_underlying Try.underlying30, sizeOf, typeInfo, hi, Builtin.lenOf, Builtin.firstCells, storeCells, loadCells, loadCellsFrom]
    · rw [List.append_nil]
      exact H.srcSub (by cases a <;> rfl) (Nat.le_refl _) hs
  · obtain ⟨v', w', hr, h2⟩ := Owns.appFull (P := Try.prog) Try.underlying30 hi hz0 hz1 hz2 rfl (by decide) H hs hv (by omega) h1 (by unfold maxLen; omega) (by omega)
    exact ⟨v', w', hr, (h2.srcOfRow (by decide)).p1.drop⟩
set_option maxHeartbeats 2000000 in
theorem radd {p : Nat} {D U : List Gr} {g : Gr} {va : Option Addr} {vc m : Nat} {L : List Ch} (hm : m = L.length) (hl : m ≤ 100000) (hg : g.L.length ≤ 100000) (H : Owns w0 w (rhistO p D U g :: R)) (hv : ∀ wx R', Owns w0 wx R' → SrcV wx 3 (.slice va m vc) m (chs L)) :
    Calls Try.prog 11 #[.pointer (some ⟨p, 0, none⟩), .slice va m vc] w (RetX (fun _ : Option Addr × Nat => .tuple #[]) w0 (fun x => rhistO p D U ⟨g.fl, g.fc, g.tl, g.tc, x.1, x.2, g.L ++ L⟩ :: R)) := by
  obtain ⟨da, ua, dc, uc, h⟩ := rhistOE H
  obtain ⟨gl, hgl⟩ : ∃ gl, gl = g.L.length := ⟨_, rfl⟩
  obtain ⟨ga, hga⟩ : ∃ ga, ga = g.ga := ⟨_, rfl⟩
  obtain ⟨gc, hgc⟩ : ∃ gc, gc = g.gc := ⟨_, rfl⟩
  have hgv : g.lv = .slice ga gl gc := by rw [hgl, hga, hgc]
  have k2 : w.cell? ⟨p, 2, none⟩ = some (.bool true) := h.cell (j := 2) rfl
  have k7 : w.cell? ⟨p, 7, none⟩ = some (.slice ga gl gc) := by rw [← hgv]; exact h.cell (j := 7) rfl
  have h3 := (h.ord [1]).drew
  have e3 : rgA g = Asrt.src 3 (.slice ga gl gc) gl (chs g.L) := by show Asrt.src 3 g.lv g.L.length _ = _; rw [hgv, ← hgl]
  have h3' := h3
  rw [e3] at h3'
  have hcap : gl ≤ gc := h3'.src.capLe
  obtain ⟨v', w5, hrn, h5⟩ := rapp h3' (hv _ _ h3') (chs_one L) (by omega)
  obtain ⟨sa, sc, rfl⟩ := h5.src.form
  have k5 : w5.cell? ⟨p, 7, none⟩ = some (.slice ga gl gc) := by rw [← hgv]; exact h5.p1.cell (j := 7) rfl
  have f5 := h5.p1.frozen 7
  have e5 : chs g.L ++ chs L = chs (g.L ++ L) := (flat_append ..).symm
  have e6 : gl + m = (g.L ++ L).length := by rw [List.length_append, hgl, hm]
  have h6 := h5.p1.set 7 (.slice sa (gl + m) sc)
  rw [e5] at h6
  have hb : 0 + vc ≥ m := by have := (hv _ _ h3').capLe; omega
  have H6 := Lib.hid h6
  have E6 := Lib.hid e6
  have K7 := Lib.hid k7
  clear H h h3 h3' e3 h5 h6 hgl hga hgc hgv e5 e6 hv hm
  go_enter Try.func11, Try.ntmps11
  go_wp2_with fail
  refine wp_region_T (fun w' => w'.cell? ⟨p, 7, none⟩ = some (.slice ga gl gc)) 24 (by kernel_rfl) (K7.out) (fun hS0 => ?_)
  refine wpAnyT_take (i := 0) (oi := _) (v := .pointer (some ⟨p, 0, none⟩)) [24] rfl (by kernel_rfl) (fun _ _ _ h => h) (Or.inl ⟨by rfl, fun w hSw => ?_⟩) hS0 ?_
  · have x0 := hSw; go_simp
  try simp only [Act.put, List.setIfInBounds_toArray, List.set_cons_zero, List.set_cons_succ, List.getElem_toArray, List.getElem_cons_zero, List.getElem_cons_succ]
  refine wpAnyT_take (i := 1) (oi := _) (v := .pointer (some ⟨p, 0, none⟩)) [24] rfl (by kernel_rfl) (fun _ _ _ h => h) (Or.inl ⟨by rfl, fun w hSw => ?_⟩) hS0 ?_
  · have x0 := hSw; go_simp
  try simp only [Act.put, List.setIfInBounds_toArray, List.set_cons_zero, List.set_cons_succ, List.getElem_toArray, List.getElem_cons_zero, List.getElem_cons_succ]
  refine wpAnyT_take (i := 2) (oi := _) (v := .pointer (some ⟨p, 0, none⟩)) [24] rfl (by kernel_rfl) (fun _ _ _ h => h) (Or.inl ⟨by rfl, fun w hSw => ?_⟩) hS0 ?_
  · have x0 := hSw; go_simp
  try simp only [Act.put, List.setIfInBounds_toArray, List.set_cons_zero, List.set_cons_succ, List.getElem_toArray, List.getElem_cons_zero, List.getElem_cons_succ]
  refine wpAnyT_take (i := 3) (oi := _) (v := .pointer (some ⟨p, 3, none⟩)) [24] rfl (by kernel_rfl) (fun _ _ _ h => h) (Or.inl ⟨by rfl, fun w hSw => ?_⟩) hS0 ?_
  · have x0 := hSw; go_simp
  try simp only [Act.put, List.setIfInBounds_toArray, List.set_cons_zero, List.set_cons_succ, List.getElem_toArray, List.getElem_cons_zero, List.getElem_cons_succ]
  refine wpAnyT_take (i := 4) (oi := _) (v := .pointer (some ⟨p, 7, none⟩)) [24] rfl (by kernel_rfl) (fun _ _ _ h => h) (Or.inl ⟨by rfl, fun w hSw => ?_⟩) hS0 ?_
  · have x0 := hSw; go_simp
  try simp only [Act.put, List.setIfInBounds_toArray, List.set_cons_zero, List.set_cons_succ, List.getElem_toArray, List.getElem_cons_zero, List.getElem_cons_succ]
  refine wpAnyT_take (i := 5) (oi := _) (v := .slice ga gl gc) [24] rfl (by kernel_rfl) (fun _ _ _ h => h) (Or.inl ⟨by rfl, fun w hSw => ?_⟩) hS0 ?_
  · have x0 := hSw; go_simp
  try simp only [Act.put, List.setIfInBounds_toArray, List.set_cons_zero, List.set_cons_succ, List.getElem_toArray, List.getElem_cons_zero, List.getElem_cons_succ]
  refine wpAnyT_take (i := 6) (oi := _) (v := .pointer (some ⟨p, 0, none⟩)) [24] rfl (by kernel_rfl) (fun _ _ _ h => h) (Or.inl ⟨by rfl, fun w hSw => ?_⟩) hS0 ?_
  · have x0 := hSw; go_simp
  try simp only [Act.put, List.setIfInBounds_toArray, List.set_cons_zero, List.set_cons_succ, List.getElem_toArray, List.getElem_cons_zero, List.getElem_cons_succ]
  refine wpAnyT_take (i := 7) (oi := _) (v := .pointer (some ⟨p, 0, none⟩)) [24] rfl (by kernel_rfl) (fun _ _ _ h => h) (Or.inl ⟨by rfl, fun w hSw => ?_⟩) hS0 ?_
  · have x0 := hSw; go_simp
  try simp only [Act.put, List.setIfInBounds_toArray, List.set_cons_zero, List.set_cons_succ, List.getElem_toArray, List.getElem_cons_zero, List.getElem_cons_succ]
  refine wpAnyT_take (i := 8) (oi := _) (v := .pointer (some ⟨p, 3, none⟩)) [24] rfl (by kernel_rfl) (fun _ _ _ h => h) (Or.inl ⟨by rfl, fun w hSw => ?_⟩) hS0 ?_
  · have x0 := hSw; go_simp
  try simp only [Act.put, List.setIfInBounds_toArray, List.set_cons_zero, List.set_cons_succ, List.getElem_toArray, List.getElem_cons_zero, List.getElem_cons_succ]
  refine wpAnyT_take (i := 9) (oi := _) (v := .pointer (some ⟨p, 7, none⟩)) [24] rfl (by kernel_rfl) (fun _ _ _ h => h) (Or.inl ⟨by rfl, fun w hSw => ?_⟩) hS0 ?_
  · have x0 := hSw; go_simp
  try simp only [Act.put, List.setIfInBounds_toArray, List.set_cons_zero, List.set_cons_succ, List.getElem_toArray, List.getElem_cons_zero, List.getElem_cons_succ]
  refine wpAnyT_take (i := 10) (oi := _) (v := .slice ga gl gc) [24] rfl (by kernel_rfl) (fun _ _ _ h => h) (Or.inl ⟨by rfl, fun w hSw => ?_⟩) hS0 ?_
  · have x0 := hSw; go_simp
  try simp only [Act.put, List.setIfInBounds_toArray, List.set_cons_zero, List.set_cons_succ, List.getElem_toArray, List.getElem_cons_zero, List.getElem_cons_succ]
  refine wpAnyT_take (i := 11) (oi := _) (v := .int .i64 gl) [24] rfl (by kernel_rfl) (fun _ _ _ h => h) (Or.inl ⟨by rfl, fun w hSw => ?_⟩) hS0 ?_
  · have x0 := hSw; go_simp
  try simp only [Act.put, List.setIfInBounds_toArray, List.set_cons_zero, List.set_cons_succ, List.getElem_toArray, List.getElem_cons_zero, List.getElem_cons_succ]
  refine wpAnyT_take (i := 12) (oi := _) (v := .pointer (some ⟨p, 0, none⟩)) [24] rfl (by kernel_rfl) (fun _ _ _ h => h) (Or.inl ⟨by rfl, fun w hSw => ?_⟩) hS0 ?_
  · have x0 := hSw; go_simp
  try simp only [Act.put, List.setIfInBounds_toArray, List.set_cons_zero, List.set_cons_succ, List.getElem_toArray, List.getElem_cons_zero, List.getElem_cons_succ]
  refine wpAnyT_take (i := 13) (oi := _) (v := .pointer (some ⟨p, 0, none⟩)) [24] rfl (by kernel_rfl) (fun _ _ _ h => h) (Or.inl ⟨by rfl, fun w hSw => ?_⟩) hS0 ?_
  · have x0 := hSw; go_simp
  try simp only [Act.put, List.setIfInBounds_toArray, List.set_cons_zero, List.set_cons_succ, List.getElem_toArray, List.getElem_cons_zero, List.getElem_cons_succ]
  refine wpAnyT_take (i := 14) (oi := _) (v := .pointer (some ⟨p, 3, none⟩)) [24] rfl (by kernel_rfl) (fun _ _ _ h => h) (Or.inl ⟨by rfl, fun w hSw => ?_⟩) hS0 ?_
  · have x0 := hSw; go_simp
  try simp only [Act.put, List.setIfInBounds_toArray, List.set_cons_zero, List.set_cons_succ, List.getElem_toArray, List.getElem_cons_zero, List.getElem_cons_succ]
  refine wpAnyT_take (i := 15) (oi := _) (v := .pointer (some ⟨p, 7, none⟩)) [24] rfl (by kernel_rfl) (fun _ _ _ h => h) (Or.inl ⟨by rfl, fun w hSw => ?_⟩) hS0 ?_
  · have x0 := hSw; go_simp
  try simp only [Act.put, List.setIfInBounds_toArray, List.set_cons_zero, List.set_cons_succ, List.getElem_toArray, List.getElem_cons_zero, List.getElem_cons_succ]
  refine wpAnyT_take (i := 16) (oi := _) (v := .slice ga gl gc) [24] rfl (by kernel_rfl) (fun _ _ _ h => h) (Or.inl ⟨by rfl, fun w hSw => ?_⟩) hS0 ?_
  · have x0 := hSw; go_simp
  try simp only [Act.put, List.setIfInBounds_toArray, List.set_cons_zero, List.set_cons_succ, List.getElem_toArray, List.getElem_cons_zero, List.getElem_cons_succ]
  refine wpAnyT_take (i := 17) (oi := _) (v := .int .i64 gl) [24] rfl (by kernel_rfl) (fun _ _ _ h => h) (Or.inl ⟨by rfl, fun w hSw => ?_⟩) hS0 ?_
  · have x0 := hSw; go_simp
  try simp only [Act.put, List.setIfInBounds_toArray, List.set_cons_zero, List.set_cons_succ, List.getElem_toArray, List.getElem_cons_zero, List.getElem_cons_succ]
  refine wpAnyT_take (i := 18) (oi := _) (v := .slice ga gl gl) [24] rfl (by kernel_rfl) (fun _ _ _ h => h) (Or.inl ⟨by rfl, fun w hSw => ?_⟩) hS0 ?_
  · have x0 := hSw; go_simp
  try simp only [Act.put, List.setIfInBounds_toArray, List.set_cons_zero, List.set_cons_succ, List.getElem_toArray, List.getElem_cons_zero, List.getElem_cons_succ]
  refine wpAnyT_take (i := 19) (oi := _) (v := .slice va m vc) [24] rfl (by kernel_rfl) (fun _ _ _ h => h) (Or.inl ⟨by rfl, fun w hSw => ?_⟩) hS0 ?_
  · have x0 := hSw; go_simp
  try simp only [Act.put, List.setIfInBounds_toArray, List.set_cons_zero, List.set_cons_succ, List.getElem_toArray, List.getElem_cons_zero, List.getElem_cons_succ]
  refine wpAnyT_step (i := 20) (o := _) rfl (by kernel_rfl) (fun K' hK => ?_)
  simp only [List.getElem_toArray, List.getElem_cons_zero, List.getElem_cons_succ]
  rw [if_pos (by rfl)]
  refine wp_append_run (.tmp 26) (.tmp 27) 30 30 (.slice ga gl gl) (.slice va m vc) (hrn 30) rfl rfl rfl ?_
  refine hK.out _ _ (k5) (fun hS1 => ?_)
  clear hK K' hS0
  clear hrn
  try simp only [Act.put, List.setIfInBounds_toArray, List.set_cons_zero, List.set_cons_succ, List.getElem_toArray, List.getElem_cons_zero, List.getElem_cons_succ]
  refine wpAnyT_take (i := 21) (oi := _) (v := .pointer (some ⟨p, 0, none⟩)) [22, 23, 24] rfl (by kernel_rfl) (fun _ _ _ h => h) (Or.inl ⟨by rfl, fun w hSw => ?_⟩) hS1 ?_
  · have x0 := hSw; go_simp
  try simp only [Act.put, List.setIfInBounds_toArray, List.set_cons_zero, List.set_cons_succ, List.getElem_toArray, List.getElem_cons_zero, List.getElem_cons_succ]
  refine wpAnyT_take (i := 22) (oi := _) (v := .pointer (some ⟨p, 3, none⟩)) [23, 24] rfl (by kernel_rfl) (fun _ _ _ h => h) (Or.inl ⟨by rfl, fun w hSw => ?_⟩) hS1 ?_
  · have x0 := hSw; go_simp
  try simp only [Act.put, List.setIfInBounds_toArray, List.set_cons_zero, List.set_cons_succ, List.getElem_toArray, List.getElem_cons_zero, List.getElem_cons_succ]
  refine wpAnyT_take (i := 23) (oi := _) (v := .pointer (some ⟨p, 7, none⟩)) [24] rfl (by kernel_rfl) (fun _ _ _ h => h) (Or.inl ⟨by rfl, fun w hSw => ?_⟩) hS1 ?_
  · have x0 := hSw; go_simp
  try simp only [Act.put, List.setIfInBounds_toArray, List.set_cons_zero, List.set_cons_succ, List.getElem_toArray, List.getElem_cons_zero, List.getElem_cons_succ]
  refine wpAnyT_last (i := 24) (o := _) rfl (by kernel_rfl) (by kernel_rfl) (fun K' hK => ?_)
  simp only [List.getElem_toArray, List.getElem_cons_zero, List.getElem_cons_succ]
  rw [if_pos (by rfl)]
  go_simp
  refine hK.out _ _ (wpAnyT_done (by kernel_rfl) ?_ _)
  dsimp only [Whole]
  go_wp2_with fail
  go_end0
  have h7 := H6.out
  obtain ⟨W5, hW5⟩ : ∃ W5, W5 = w5.setCell ⟨p, 7, none⟩ (.slice sa (gl + m) sc) := ⟨_, rfl⟩
  rw [← hW5] at h7 ⊢
  rw [E6.out] at h7
  exact ⟨(sa, sc), rfl, rhistOI (dv := .slice da D.length dc) (uv := .slice ua U.length uc) (g := ⟨g.fl, g.fc, g.tl, g.tc, sa, sc, g.L ++ L⟩) h7⟩
end
end Go.Proofs.Ytchgkdhhfbppbaa
