/- The law UndoPlays on values that read. -/
import Derived.Test.YtchgkdhhfbppbaaUY
import Derived.Deep.RegionWith
namespace Go.Proofs.Ytchgkdhhfbppbaa
open Go Go.RowKit Go.Fol
attribute [local go_sem ↓] Go.wp_at_zero Go.wp_at_succ
set_option linter.unusedVariables false
set_option linter.unusedSimpArgs false
theorem eqin_pos (x y : Int) (w : World) : (Op.equalIn 10000 29 (.agg #[.int .i64 x, .int .i64 y]) (.agg #[.int .i64 x, .int .i64 y])).run Try.prog w = .ok true w := by
  rw [show (10000 : Nat) = 9998 + 1 + 1 from rfl, run_equalIn_agg (ht := by kernel_rfl) (hp := by kernel_rfl)]
  obtain ⟨a, b, hf, ha, hb, na, nb, oa, ob⟩ : ∃ a b : Field, (Try.prog.fieldsOf 29).toList = [a, b] ∧ a.type = 3 ∧ b.type = 3 ∧ (a.name == "_") = false ∧ (b.name == "_") = false ∧ a.offset = 0 ∧ b.offset = 1 := ⟨(Try.prog.fieldsOf 29)[0]!, (Try.prog.fieldsOf 29)[1]!, by kernel_rfl, by kernel_rfl, by kernel_rfl, by kernel_rfl, by kernel_rfl, by kernel_rfl, by kernel_rfl⟩
  rw [hf]
  generalize (9998 : Nat) = d
  simp only [beq_eq_false_iff_ne, ne_eq] at na nb
  simp [Op.eqFields, go_sem, ha, hb, na, nb, oa, ob]
set_option maxHeartbeats 8000000 in
set_option maxRecDepth 100000 in
theorem undoPlays_walk (w : World) (v0 : Value) (a0 : Arg Try.prog w 22 v0) :
    Calls Try.prog 3 #[v0] w fun e w' => e = .returned (.bool true) ∧ Below w.heap.size w w' := by
  obtain ⟨ca, c, cc, rfl, _, hcc, hcm, _, hrow⟩ := arg_slice (k := 4) Try.underlying22 (by kernel_rfl) (by decide) a0
  have hc63 : c ≤ 9223372036854775807 := by unfold maxLen at hcm; omega
  have Hrow := Lib.hid hrow
  clear a0 hrow hcm
  go_enter Try.func3, Try.ntmps3
  go_wp2_with fail
  refine (known_true (Owns.start w)).mono ?_
  rintro e w1 ⟨rfl, h1⟩
  have H1 := Lib.hid h1
  clear h1
  by_cases hc80 : c ≤ 80
  rotate_left
  · go_wp2_with fail
    go_ret
    exact ⟨rfl, H1.out.below⟩
  go_wp2_with fail
  refine (unew H1.out).mono ?_
  rintro e w2 ⟨p, rfl, h2⟩
  obtain ⟨r, hr⟩ : ∃ r, r = w2.heap.size := ⟨_, rfl⟩
  have h3 := h2.alloc #[.slice none 0 0, .slice none 0 0, .bool false, .int .i64 0, .int .i64 0, .int .i64 0, .int .i64 0, .slice none 0 0] 34
  rw [← hr] at h3
  have H3 := Lib.hid (rnew h3)
  have Hr := Lib.hid hr
  clear h2 h3 H1 hr
  go_upto_region 6 with (fail)
  rw [← Hr.out]
  go_wp2_with fail
  go_loopg [5] c (fun gk q wr => ∃ (i : Nat) (s : St), gk + i = c ∧ q = .int .i64 i ∧ Ok w i s ∧ Owns w wr [rS r s, pS p s])
  case atStart => exact ⟨0, ⟨[], [], [], none⟩, rfl, rfl, ok_start w, H3.out⟩
  case round =>
    obtain ⟨i, s, hgi, rfl, hs, h5⟩ := hrel
    have H5 := Lib.hid h5
    have Hs := Lib.hid hs
    clear h5 hs H3
    by_cases hlt : i < c
    rotate_left
    · go_wp2_with fail
      go_ret
      exact ⟨rfl, H5.out.below⟩
    obtain ⟨b, off, rfl, hbl, hel⟩ := Hrow.out (by omega)
    obtain ⟨es, hes, hrd, hce⟩ := hel i hlt
    obtain ⟨a, l, pc, L, n, ka, kc, rfl, ha0, ha1, hn, hK, hh, ho⟩ := act_of hes hrd
    have hk63 := hK.n63
    have k0 := H5.out.chg.cell (hce 0 _ rfl) (by simp)
    have k1 := H5.out.chg.cell (hce 1 _ rfl) (by simp)
    have k2 := H5.out.chg.cell (hce 2 _ rfl) (by simp)
    have k3 := H5.out.chg.cell (hce 3 _ rfl) (by simp)
    simp only [Nat.add_zero] at k0
    have h6 := H5.out.alloc #[.int .u8 a, .int .i64 l, .int .i64 pc, .slice ka n kc] 36
    obtain ⟨W1, hW1⟩ : ∃ W1, wr.alloc (.cells #[.int .u8 a, .int .i64 l, .int .i64 pc, .slice ka n kc] 36) = W1 := ⟨_, rfl⟩
    obtain ⟨X, hX⟩ : ∃ X, X = wr.heap.size := ⟨_, rfl⟩
    rw [hW1, ← hX] at h6
    have x0 : W1.cell? ⟨X, 0, none⟩ = some (.int .u8 a) := h6.cell (j := 0) rfl
    have x1 : W1.cell? ⟨X, 1, none⟩ = some (.int .i64 l) := h6.cell (j := 1) rfl
    have x2 : W1.cell? ⟨X, 2, none⟩ = some (.int .i64 pc) := h6.cell (j := 2) rfl
    have x3 : W1.cell? ⟨X, 3, none⟩ = some (.slice ka n kc) := h6.cell (j := 3) rfl
    have HW1 := Lib.hid hW1
    have HX := Lib.hid hX
    have H6 := Lib.hid h6
    have HK : Hid (SrcV w 3 (.slice ka n kc) n (chs L)) := Lib.hid hK
    have Hn := Lib.hid hn
    have Hh := Lib.hid hh
    have Ho := Lib.hid ho
    clear hrd hce hes hel hbl hW1 hX h6 hK hn hh ho
    go_upto_region 10 with (fail)
    rw [HW1.out, ← HX.out]
    clear k0 k1 k2 k3 HW1 HX
    by_cases hn4 : n ≤ 4
    rotate_left
    · go_wp2_with fail
      go_ret
      exact ⟨rfl, H6.out.below⟩
    go_upto_block 2 with (fail)
    go_cut [7, 8, 9, 10, 11, 12, 13, 14, 15, 16, 17, 18] from 29 to 156 (fun _ _ _ _ _ _ _ _ _ _ _ _ wx => ∃ s' : St, Ok w (i + 1) s' ∧ Owns w wx [rS r s', pS p s', Asrt.obj X (.cells #[.int .u8 a, .int .i64 l, .int .i64 pc, .slice ka n kc] 36 (0, 0))])
    case first =>
      obtain ⟨m, hm⟩ : ∃ m, a % 6 = m := ⟨_, rfl⟩
      have hm0 : 0 ≤ m ∧ m < 6 := by omega
      obtain ⟨hm0, hm1⟩ := hm0
      rcases (show m = 0 ∨ m = 1 ∨ m = 2 ∨ m = 3 ∨ m = 4 ∨ m = 5 by omega) with h | h | h | h | h | h
      all_goals subst h
      · go_wp2_with fail
        refine (pbeg l pc (H6.out.ord [2])).mono ?_
        rintro e w5 ⟨rfl, h8⟩
        have y1 : w5.cell? ⟨X, 1, none⟩ = some (.int .i64 l) := h8.p1.cell (j := 1) rfl
        have y2 : w5.cell? ⟨X, 2, none⟩ = some (.int .i64 pc) := h8.p1.cell (j := 2) rfl
        have H8 := Lib.hid (h8.ord [2])
        clear h8
        go_wp2_with fail
        refine (rbeg l pc H8.out).mono ?_
        rintro e w6 ⟨rfl, h9⟩
        have H9 := Lib.hid h9
        clear h9 H8
        go_wp2_with fail
        go_meet
        exact ⟨_, begS_ok l pc Hs.out, H9.out⟩
      · go_wp2_with fail
        refine (padd Hs.out Hn.out HK.out Hh.out Ho.out (by have := Hn.out; omega) (H6.out.ord [2])).mono ?_
        rintro e w5 ⟨rfl, ao, hao, h8⟩
        have y3 : w5.cell? ⟨X, 3, none⟩ = some (.slice ka n kc) := h8.p1.cell (j := 3) rfl
        have H8 := Lib.hid (h8.ord [2])
        have Hao := Lib.hid hao
        clear h8 hao
        go_wp2_with fail
        refine (radd' Hs.out (by omega) Hn.out HK.out Hh.out Ho.out (by have := Hn.out; omega) Hao.out H8.out).mono ?_
        rintro e w6 ⟨rfl, s', hs', h9⟩
        have H9 := Lib.hid h9
        have Hs' := Lib.hid hs'
        clear h9 H8 hs'
        go_wp2_with fail
        go_meet
        exact ⟨_, Hs'.out, H9.out⟩
      · obtain ⟨bb, hbb⟩ : ∃ bb, comB s = bb := ⟨_, rfl⟩
        have hpc := fun (wx : World) (h : Owns w wx [pS p s, Asrt.obj X (.cells #[.int .u8 a, .int .i64 l, .int .i64 pc, .slice ka n kc] 36 (0, 0)), rS r s]) => pcom l pc Hs.out h
        have hrc := fun (wx : World) (h : Owns w wx [rS r s, pS p (comT s l pc), Asrt.obj X (.cells #[.int .u8 a, .int .i64 l, .int .i64 pc, .slice ka n kc] 36 (0, 0))]) => rcom l pc Hs.out h
        rw [hbb] at hpc hrc
        have Hpc := Lib.hid hpc
        have Hrc := Lib.hid hrc
        clear hpc hrc hbb
        go_upto_region 25 with (fail)
        refine wp_region_held_drew (S := (fun w' => w'.cell? ⟨X, 1, none⟩ = some (.int .i64 l) ∧ w'.cell? ⟨X, 2, none⟩ = some (.int .i64 pc))) (by kernel_rfl) ⟨H6.out.drew.cell (j := 1) rfl, H6.out.drew.cell (j := 2) rfl⟩ (fun hS0 => ?_)
        refine wpAnyH_take (i := 0) (oi := _) (v := .pointer (some ⟨p, 0, none⟩)) rfl (by kernel_rfl) (by kernel_rfl) (by kernel_rfl) (fun _ _ _ h => h) (Or.inl ⟨by rfl, fun w hSw => ?_⟩) hS0 ?_
        · obtain ⟨x0, x1⟩ := hSw; go_simp
        try simp only [Act.put, List.setIfInBounds_toArray, List.set_cons_zero, List.set_cons_succ, List.getElem_toArray, List.getElem_cons_zero, List.getElem_cons_succ]
        refine wpAnyH_take (i := 1) (oi := _) (v := .pointer (some ⟨X, 1, none⟩)) rfl (by kernel_rfl) (by kernel_rfl) (by kernel_rfl) (fun _ _ _ h => h) (Or.inl ⟨by rfl, fun w hSw => ?_⟩) hS0 ?_
        · obtain ⟨x0, x1⟩ := hSw; go_simp
        try simp only [Act.put, List.setIfInBounds_toArray, List.set_cons_zero, List.set_cons_succ, List.getElem_toArray, List.getElem_cons_zero, List.getElem_cons_succ]
        refine wpAnyH_take (i := 2) (oi := _) (v := .agg #[.int .i64 l, .int .i64 pc]) rfl (by kernel_rfl) (by kernel_rfl) (by kernel_rfl) (fun _ _ _ h => h) (Or.inl ⟨by rfl, fun w hSw => ?_⟩) hS0 ?_
        · obtain ⟨x0, x1⟩ := hSw; go_simp
        try simp only [Act.put, List.setIfInBounds_toArray, List.set_cons_zero, List.set_cons_succ, List.getElem_toArray, List.getElem_cons_zero, List.getElem_cons_succ]
        refine wpAnyH_take (i := 4) (oi := _) (v := .pointer (some ⟨r, 0, none⟩)) rfl (by kernel_rfl) (by kernel_rfl) (by kernel_rfl) (fun _ _ _ h => h) (Or.inl ⟨by rfl, fun w hSw => ?_⟩) hS0 ?_
        · obtain ⟨x0, x1⟩ := hSw; go_simp
        try simp only [Act.put, List.setIfInBounds_toArray, List.set_cons_zero, List.set_cons_succ, List.getElem_toArray, List.getElem_cons_zero, List.getElem_cons_succ]
        refine wpAnyH_take (i := 5) (oi := _) (v := .pointer (some ⟨X, 1, none⟩)) rfl (by kernel_rfl) (by kernel_rfl) (by kernel_rfl) (fun _ _ _ h => h) (Or.inl ⟨by rfl, fun w hSw => ?_⟩) hS0 ?_
        · obtain ⟨x0, x1⟩ := hSw; go_simp
        try simp only [Act.put, List.setIfInBounds_toArray, List.set_cons_zero, List.set_cons_succ, List.getElem_toArray, List.getElem_cons_zero, List.getElem_cons_succ]
        refine wpAnyH_take (i := 6) (oi := _) (v := .agg #[.int .i64 l, .int .i64 pc]) rfl (by kernel_rfl) (by kernel_rfl) (by kernel_rfl) (fun _ _ _ h => h) (Or.inl ⟨by rfl, fun w hSw => ?_⟩) hS0 ?_
        · obtain ⟨x0, x1⟩ := hSw; go_simp
        try simp only [Act.put, List.setIfInBounds_toArray, List.set_cons_zero, List.set_cons_succ, List.getElem_toArray, List.getElem_cons_zero, List.getElem_cons_succ]
        refine wpAnyH_ready (rs := [3]) (by kernel_rfl) (by simp) (AllReadyH.cons (o := _) rfl (fun K' hK => ?_) AllReadyH.nil)
        simp only [List.getElem_toArray, List.getElem_cons_zero, List.getElem_cons_succ]
        rw [if_pos (by rfl)]
        go_simp
        refine (Hpc.out _ (H6.out.drew.ord [2])).mono ?_
        rintro e w5 ⟨rfl, h8⟩
        refine hK.out _ _ ⟨h8.p1.cell (j := 1) rfl, h8.p1.cell (j := 2) rfl⟩ (fun hS1 => ?_)
        clear hK K' hS0
        have H8 := Lib.hid (h8.ord [2])
        clear h8
        try simp only [Act.put, List.setIfInBounds_toArray, List.set_cons_zero, List.set_cons_succ, List.getElem_toArray, List.getElem_cons_zero, List.getElem_cons_succ]
        refine wpAnyH_ready (rs := [7]) (by kernel_rfl) (by simp) (AllReadyH.cons (o := _) rfl (fun K' hK => ?_) AllReadyH.nil)
        simp only [List.getElem_toArray, List.getElem_cons_zero, List.getElem_cons_succ]
        rw [if_pos (by rfl)]
        go_simp
        refine (Hrc.out _ H8.out).mono ?_
        rintro e w6 ⟨rfl, h9⟩
        refine hK.out _ _ ⟨h9.p2.cell (j := 1) rfl, h9.p2.cell (j := 2) rfl⟩ (fun hS2 => ?_)
        clear hK K' hS1
        have H9 := Lib.hid h9
        clear h9
        try simp only [Act.put, List.setIfInBounds_toArray, List.set_cons_zero, List.set_cons_succ, List.getElem_toArray, List.getElem_cons_zero, List.getElem_cons_succ]
        refine wpAnyH_take (i := 8) (oi := _) (v := .bool false) rfl (by kernel_rfl) (by kernel_rfl) (by kernel_rfl) (fun _ _ _ h => h) (Or.inl ⟨by rfl, fun w hSw => ?_⟩) hS2 ?_
        · obtain ⟨x0, x1⟩ := hSw; go_simp
        try simp only [Act.put, List.setIfInBounds_toArray, List.set_cons_zero, List.set_cons_succ, List.getElem_toArray, List.getElem_cons_zero, List.getElem_cons_succ]
        refine wpAnyH_done (by kernel_rfl) ?_ _
        try dsimp only [Whole]
        go_wp2_with fail
        go_meet
        exact ⟨_, comT_ok l pc Hs.out, H9.out⟩
      · obtain ⟨bb, hbb⟩ : ∃ bb, comB s = bb := ⟨_, rfl⟩
        have hpc := fun (wx : World) (h : Owns w wx [pS p s, Asrt.obj X (.cells #[.int .u8 a, .int .i64 l, .int .i64 pc, .slice ka n kc] 36 (0, 0)), rS r s]) => pcom l pc Hs.out h
        have hrc := fun (wx : World) (h : Owns w wx [rS r s, pS p (comT s l pc), Asrt.obj X (.cells #[.int .u8 a, .int .i64 l, .int .i64 pc, .slice ka n kc] 36 (0, 0))]) => rcom l pc Hs.out h
        rw [hbb] at hpc hrc
        have Hpc := Lib.hid hpc
        have Hrc := Lib.hid hrc
        clear hpc hrc hbb
        go_upto_region 25 with (fail)
        refine wp_region_held_drew (S := (fun w' => w'.cell? ⟨X, 1, none⟩ = some (.int .i64 l) ∧ w'.cell? ⟨X, 2, none⟩ = some (.int .i64 pc))) (by kernel_rfl) ⟨H6.out.drew.cell (j := 1) rfl, H6.out.drew.cell (j := 2) rfl⟩ (fun hS0 => ?_)
        refine wpAnyH_take (i := 0) (oi := _) (v := .pointer (some ⟨p, 0, none⟩)) rfl (by kernel_rfl) (by kernel_rfl) (by kernel_rfl) (fun _ _ _ h => h) (Or.inl ⟨by rfl, fun w hSw => ?_⟩) hS0 ?_
        · obtain ⟨x0, x1⟩ := hSw; go_simp
        try simp only [Act.put, List.setIfInBounds_toArray, List.set_cons_zero, List.set_cons_succ, List.getElem_toArray, List.getElem_cons_zero, List.getElem_cons_succ]
        refine wpAnyH_take (i := 1) (oi := _) (v := .pointer (some ⟨X, 1, none⟩)) rfl (by kernel_rfl) (by kernel_rfl) (by kernel_rfl) (fun _ _ _ h => h) (Or.inl ⟨by rfl, fun w hSw => ?_⟩) hS0 ?_
        · obtain ⟨x0, x1⟩ := hSw; go_simp
        try simp only [Act.put, List.setIfInBounds_toArray, List.set_cons_zero, List.set_cons_succ, List.getElem_toArray, List.getElem_cons_zero, List.getElem_cons_succ]
        refine wpAnyH_take (i := 2) (oi := _) (v := .agg #[.int .i64 l, .int .i64 pc]) rfl (by kernel_rfl) (by kernel_rfl) (by kernel_rfl) (fun _ _ _ h => h) (Or.inl ⟨by rfl, fun w hSw => ?_⟩) hS0 ?_
        · obtain ⟨x0, x1⟩ := hSw; go_simp
        try simp only [Act.put, List.setIfInBounds_toArray, List.set_cons_zero, List.set_cons_succ, List.getElem_toArray, List.getElem_cons_zero, List.getElem_cons_succ]
        refine wpAnyH_take (i := 4) (oi := _) (v := .pointer (some ⟨r, 0, none⟩)) rfl (by kernel_rfl) (by kernel_rfl) (by kernel_rfl) (fun _ _ _ h => h) (Or.inl ⟨by rfl, fun w hSw => ?_⟩) hS0 ?_
        · obtain ⟨x0, x1⟩ := hSw; go_simp
        try simp only [Act.put, List.setIfInBounds_toArray, List.set_cons_zero, List.set_cons_succ, List.getElem_toArray, List.getElem_cons_zero, List.getElem_cons_succ]
        refine wpAnyH_take (i := 5) (oi := _) (v := .pointer (some ⟨X, 1, none⟩)) rfl (by kernel_rfl) (by kernel_rfl) (by kernel_rfl) (fun _ _ _ h => h) (Or.inl ⟨by rfl, fun w hSw => ?_⟩) hS0 ?_
        · obtain ⟨x0, x1⟩ := hSw; go_simp
        try simp only [Act.put, List.setIfInBounds_toArray, List.set_cons_zero, List.set_cons_succ, List.getElem_toArray, List.getElem_cons_zero, List.getElem_cons_succ]
        refine wpAnyH_take (i := 6) (oi := _) (v := .agg #[.int .i64 l, .int .i64 pc]) rfl (by kernel_rfl) (by kernel_rfl) (by kernel_rfl) (fun _ _ _ h => h) (Or.inl ⟨by rfl, fun w hSw => ?_⟩) hS0 ?_
        · obtain ⟨x0, x1⟩ := hSw; go_simp
        try simp only [Act.put, List.setIfInBounds_toArray, List.set_cons_zero, List.set_cons_succ, List.getElem_toArray, List.getElem_cons_zero, List.getElem_cons_succ]
        refine wpAnyH_ready (rs := [3]) (by kernel_rfl) (by simp) (AllReadyH.cons (o := _) rfl (fun K' hK => ?_) AllReadyH.nil)
        simp only [List.getElem_toArray, List.getElem_cons_zero, List.getElem_cons_succ]
        rw [if_pos (by rfl)]
        go_simp
        refine (Hpc.out _ (H6.out.drew.ord [2])).mono ?_
        rintro e w5 ⟨rfl, h8⟩
        refine hK.out _ _ ⟨h8.p1.cell (j := 1) rfl, h8.p1.cell (j := 2) rfl⟩ (fun hS1 => ?_)
        clear hK K' hS0
        have H8 := Lib.hid (h8.ord [2])
        clear h8
        try simp only [Act.put, List.setIfInBounds_toArray, List.set_cons_zero, List.set_cons_succ, List.getElem_toArray, List.getElem_cons_zero, List.getElem_cons_succ]
        refine wpAnyH_ready (rs := [7]) (by kernel_rfl) (by simp) (AllReadyH.cons (o := _) rfl (fun K' hK => ?_) AllReadyH.nil)
        simp only [List.getElem_toArray, List.getElem_cons_zero, List.getElem_cons_succ]
        rw [if_pos (by rfl)]
        go_simp
        refine (Hrc.out _ H8.out).mono ?_
        rintro e w6 ⟨rfl, h9⟩
        refine hK.out _ _ ⟨h9.p2.cell (j := 1) rfl, h9.p2.cell (j := 2) rfl⟩ (fun hS2 => ?_)
        clear hK K' hS1
        have H9 := Lib.hid h9
        clear h9
        try simp only [Act.put, List.setIfInBounds_toArray, List.set_cons_zero, List.set_cons_succ, List.getElem_toArray, List.getElem_cons_zero, List.getElem_cons_succ]
        refine wpAnyH_take (i := 8) (oi := _) (v := .bool false) rfl (by kernel_rfl) (by kernel_rfl) (by kernel_rfl) (fun _ _ _ h => h) (Or.inl ⟨by rfl, fun w hSw => ?_⟩) hS2 ?_
        · obtain ⟨x0, x1⟩ := hSw; go_simp
        try simp only [Act.put, List.setIfInBounds_toArray, List.set_cons_zero, List.set_cons_succ, List.getElem_toArray, List.getElem_cons_zero, List.getElem_cons_succ]
        refine wpAnyH_done (by kernel_rfl) ?_ _
        try dsimp only [Whole]
        go_wp2_with fail
        go_meet
        exact ⟨_, comT_ok l pc Hs.out, H9.out⟩
      · by_cases hno : s.op ≠ none ∨ s.D = []
        · have hc1 := pundo_no Hs.out hno (H6.out.ord [2])
          have heq := fun w => eqin_pos 0 0 w
          have Hno := Lib.hid hno
          have Hc1 := Lib.hid hc1
          clear hno hc1
          go_wp2_with fail
          refine Hc1.out.mono ?_
          rintro e w5 ⟨rfl, h8⟩
          obtain ⟨B1, hB1⟩ : ∃ B1, B1 = w5.heap.size := ⟨_, rfl⟩
          have h9 := (h8.alloc #[.int .i64 0, .int .i64 0] 29)
          rw [← hB1] at h9
          have Hc2 := Lib.hid (rundo_no Hs.out Hno.out (h9.ord [3]))
          have HB1 := Lib.hid hB1
          clear h8 h9 Hc1 hB1
          go_wp2_with fail
          refine Hc2.out.mono ?_
          rintro e w6 ⟨rfl, h10⟩
          obtain ⟨B2, hB2⟩ : ∃ B2, B2 = w6.heap.size := ⟨_, rfl⟩
          obtain ⟨W6, hW6⟩ : ∃ W6, W6 = w6.alloc (.cells #[.int .i64 0, .int .i64 0] 29) := ⟨_, rfl⟩
          have h11 := (h10.alloc #[.int .i64 0, .int .i64 0] 29)
          rw [← hB2, ← hW6] at h11
          have q0 : W6.cell? ⟨B2, 0, none⟩ = some (.int .i64 0) := h11.cell (j := 0) rfl
          have q1 : W6.cell? ⟨B2, 1, none⟩ = some (.int .i64 0) := h11.cell (j := 1) rfl
          have q2 : W6.cell? ⟨B1, 0, none⟩ = some (.int .i64 0) := (h11.ord [2]).cell (j := 0) rfl
          have q3 : W6.cell? ⟨B1, 1, none⟩ = some (.int .i64 0) := (h11.ord [2]).cell (j := 1) rfl
          have Hch := Lib.hid (hchanges (A := []) (B := []) rfl (h11.ord [1, 2]) ChRd.nil ChRd.nil)
          have HW6 := Lib.hid hW6
          have HB2 := Lib.hid hB2
          clear h10 h11 hW6 hB2 Hc2
          go_upto_region 30 with (fail)
          rw [← HW6.out, ← HB2.out, ← HB1.out]
          go_wp2_with fail
          refine Hch.out.mono ?_
          rintro e w7 ⟨rfl, h12⟩
          obtain ⟨s', hs', h13⟩ := both_same Hs.out ((h12.ord [0, 0, 2]).left (R := [_, _, _]))
          have H13 := Lib.hid h13
          have Hs' := Lib.hid hs'
          clear h12 h13 hs' Hch q0 q1 q2 q3
          go_wp2_with fail
          go_meet
          exact ⟨_, Hs'.out, H13.out⟩
        · have hno1 : s.op = none := by
            cases h : s.op with
            | none => rfl
            | some x => exact absurd (.inl (by simp [h])) hno
          have hno2 : s.D ≠ [] := fun h => hno (.inr h)
          obtain ⟨D, g', hD⟩ : ∃ D g', s.D = D ++ [g'] := ⟨s.D.dropLast, s.D.getLast hno2, (List.dropLast_concat_getLast hno2).symm⟩
          have hheld : HeldL w g'.L := (Hs.out.gs g' (by rw [hD]; simp)).held
          have heq := fun w => eqin_pos g'.fl g'.fc w
          have hc1 := pundo Hs.out hD hno1 (H6.out.ord [2])
          have hc2 := fun (wx : World) (R : List Asrt) (h : Owns w wx (rS r s :: R)) => rundo' Hs.out hD hno1 h
          have hboth := fun (wx : World) (h : Owns w wx _) => both_undo (p := p) (r := r) (R := [Asrt.obj X (.cells #[.int .u8 a, .int .i64 l, .int .i64 pc, .slice ka n kc] 36 (0, 0))]) Hs.out hD hno1 h
          have Hheld := Lib.hid hheld
          have Hc1 := Lib.hid hc1
          have Hc2 := Lib.hid hc2
          have Hboth := Lib.hid hboth
          clear hno hno1 hno2 hD hc1 hc2 hboth hheld
          go_wp2_with fail
          refine Hc1.out.mono ?_
          rintro e w5 ⟨⟨v5, M⟩, rfl, h8⟩
          obtain ⟨hM, h8⟩ := h8.pureE
          dsimp only at hM h8 ⊢
          obtain ⟨va, vc, rfl⟩ := row_slice h8.row
          obtain ⟨B1, hB1⟩ : ∃ B1, B1 = w5.heap.size := ⟨_, rfl⟩
          have h9 := (h8.alloc #[.int .i64 g'.fl, .int .i64 g'.fc] 29)
          rw [← hB1] at h9
          have hc3 := Hc2.out _ _ (h9.ord [5])
          have Hc3 := Lib.hid hc3
          have HM := Lib.hid hM
          have HB1 := Lib.hid hB1
          clear h8 h9 Hc1 hB1 hM hc3 Hc2
          go_wp2_with fail
          refine Hc3.out.mono ?_
          rintro e w6 ⟨v6, rfl, h10⟩
          obtain ⟨vb, vd, rfl⟩ := row_slice h10.row
          dsimp only at h10 ⊢
          obtain ⟨B2, hB2⟩ : ∃ B2, B2 = w6.heap.size := ⟨_, rfl⟩
          obtain ⟨W6, hW6⟩ : ∃ W6, W6 = w6.alloc (.cells #[.int .i64 g'.fl, .int .i64 g'.fc] 29) := ⟨_, rfl⟩
          have h11 := (h10.alloc #[.int .i64 g'.fl, .int .i64 g'.fc] 29)
          rw [← hB2, ← hW6] at h11
          have q0 : W6.cell? ⟨B2, 0, none⟩ = some (.int .i64 g'.fl) := h11.cell (j := 0) rfl
          have q1 : W6.cell? ⟨B2, 1, none⟩ = some (.int .i64 g'.fc) := h11.cell (j := 1) rfl
          have q2 : W6.cell? ⟨B1, 0, none⟩ = some (.int .i64 g'.fl) := (h11.ord [3]).cell (j := 0) rfl
          have q3 : W6.cell? ⟨B1, 1, none⟩ = some (.int .i64 g'.fc) := (h11.ord [3]).cell (j := 1) rfl
          have hM := HM.out
          have hch := hchanges (va := .slice va M.length vc) (vb := (.slice vb (rinv g'.L).length vd)) (A := M) (B := (rinv g'.L)) (by rw [hM, rinv_dat]) h11 (ChRd.own (by simp [ordL]) (by simp [ordL])) (ChRd.held (Reads.row (e := 49) (by simp)) Hheld.out.rinv)
          have Hch := Lib.hid hch
          have HW6 := Lib.hid hW6
          have HB2 := Lib.hid hB2
          clear h10 h11 hW6 hB2 Hc3 hch hM
          go_upto_region 30 with (fail)
          rw [← HW6.out, ← HB2.out, ← HB1.out]
          go_wp2_with fail
          refine Hch.out.mono ?_
          rintro e w7 ⟨rfl, h12⟩
          obtain ⟨s', hs', h13⟩ := Hboth.out _ ((h12.ord [2, 5, 5]).left (R := [_, _, _]))
          have H13 := Lib.hid h13
          have Hs' := Lib.hid hs'
          clear h12 h13 hs' Hch q0 q1 q2 q3 Hboth
          go_wp2_with fail
          go_meet
          exact ⟨_, Hs'.out, H13.out⟩
      · by_cases hno : s.op ≠ none ∨ s.U = []
        · have hc1 := predo_no Hs.out hno (H6.out.ord [2])
          have heq := fun w => eqin_pos 0 0 w
          have Hno := Lib.hid hno
          have Hc1 := Lib.hid hc1
          clear hno hc1
          go_wp2_with fail
          refine Hc1.out.mono ?_
          rintro e w5 ⟨rfl, h8⟩
          obtain ⟨B1, hB1⟩ : ∃ B1, B1 = w5.heap.size := ⟨_, rfl⟩
          have h9 := (h8.alloc #[.int .i64 0, .int .i64 0] 29)
          rw [← hB1] at h9
          have Hc2 := Lib.hid (rredo_no Hs.out Hno.out (h9.ord [3]))
          have HB1 := Lib.hid hB1
          clear h8 h9 Hc1 hB1
          go_wp2_with fail
          refine Hc2.out.mono ?_
          rintro e w6 ⟨rfl, h10⟩
          obtain ⟨B2, hB2⟩ : ∃ B2, B2 = w6.heap.size := ⟨_, rfl⟩
          obtain ⟨W6, hW6⟩ : ∃ W6, W6 = w6.alloc (.cells #[.int .i64 0, .int .i64 0] 29) := ⟨_, rfl⟩
          have h11 := (h10.alloc #[.int .i64 0, .int .i64 0] 29)
          rw [← hB2, ← hW6] at h11
          have q0 : W6.cell? ⟨B2, 0, none⟩ = some (.int .i64 0) := h11.cell (j := 0) rfl
          have q1 : W6.cell? ⟨B2, 1, none⟩ = some (.int .i64 0) := h11.cell (j := 1) rfl
          have q2 : W6.cell? ⟨B1, 0, none⟩ = some (.int .i64 0) := (h11.ord [2]).cell (j := 0) rfl
          have q3 : W6.cell? ⟨B1, 1, none⟩ = some (.int .i64 0) := (h11.ord [2]).cell (j := 1) rfl
          have Hch := Lib.hid (hchanges (A := []) (B := []) rfl (h11.ord [1, 2]) ChRd.nil ChRd.nil)
          have HW6 := Lib.hid hW6
          have HB2 := Lib.hid hB2
          clear h10 h11 hW6 hB2 Hc2
          go_upto_region 15 with (fail)
          rw [← HW6.out, ← HB2.out, ← HB1.out]
          go_wp2_with fail
          refine Hch.out.mono ?_
          rintro e w7 ⟨rfl, h12⟩
          obtain ⟨s', hs', h13⟩ := both_same Hs.out ((h12.ord [0, 0, 2]).left (R := [_, _, _]))
          have H13 := Lib.hid h13
          have Hs' := Lib.hid hs'
          clear h12 h13 hs' Hch q0 q1 q2 q3
          go_wp2_with fail
          go_meet
          exact ⟨_, Hs'.out, H13.out⟩
        · have hno1 : s.op = none := by
            cases h : s.op with
            | none => rfl
            | some x => exact absurd (.inl (by simp [h])) hno
          have hno2 : s.U ≠ [] := fun h => hno (.inr h)
          obtain ⟨D, g', hD⟩ : ∃ D g', s.U = D ++ [g'] := ⟨s.U.dropLast, s.U.getLast hno2, (List.dropLast_concat_getLast hno2).symm⟩
          have hheld : HeldL w g'.L := (Hs.out.gs g' (by rw [hD]; simp)).held
          have heq := fun w => eqin_pos g'.tl g'.tc w
          have hc1 := predo Hs.out hD hno1 (H6.out.ord [2])
          have hc2 := fun (wx : World) (R : List Asrt) (h : Owns w wx (rS r s :: R)) => rredo' Hs.out hD hno1 h
          have hboth := fun (wx : World) (h : Owns w wx _) => both_redo (p := p) (r := r) (R := [Asrt.obj X (.cells #[.int .u8 a, .int .i64 l, .int .i64 pc, .slice ka n kc] 36 (0, 0))]) Hs.out hD hno1 h
          have Hheld := Lib.hid hheld
          have Hc1 := Lib.hid hc1
          have Hc2 := Lib.hid hc2
          have Hboth := Lib.hid hboth
          clear hno hno1 hno2 hD hc1 hc2 hboth hheld
          go_wp2_with fail
          refine Hc1.out.mono ?_
          rintro e w5 ⟨⟨v5, M⟩, rfl, h8⟩
          obtain ⟨hM, h8⟩ := h8.pureE
          dsimp only at hM h8 ⊢
          obtain ⟨va, vc, rfl⟩ := row_slice h8.row
          obtain ⟨B1, hB1⟩ : ∃ B1, B1 = w5.heap.size := ⟨_, rfl⟩
          have h9 := (h8.alloc #[.int .i64 g'.tl, .int .i64 g'.tc] 29)
          rw [← hB1] at h9
          have hc3 := Hc2.out _ _ (h9.ord [5])
          have Hc3 := Lib.hid hc3
          have HM := Lib.hid hM
          have HB1 := Lib.hid hB1
          clear h8 h9 Hc1 hB1 hM hc3 Hc2
          go_wp2_with fail
          refine Hc3.out.mono ?_
          rintro e w6 ⟨rfl, h10⟩
          obtain ⟨B2, hB2⟩ : ∃ B2, B2 = w6.heap.size := ⟨_, rfl⟩
          obtain ⟨W6, hW6⟩ : ∃ W6, W6 = w6.alloc (.cells #[.int .i64 g'.tl, .int .i64 g'.tc] 29) := ⟨_, rfl⟩
          have h11 := (h10.alloc #[.int .i64 g'.tl, .int .i64 g'.tc] 29)
          rw [← hB2, ← hW6] at h11
          have q0 : W6.cell? ⟨B2, 0, none⟩ = some (.int .i64 g'.tl) := h11.cell (j := 0) rfl
          have q1 : W6.cell? ⟨B2, 1, none⟩ = some (.int .i64 g'.tc) := h11.cell (j := 1) rfl
          have q2 : W6.cell? ⟨B1, 0, none⟩ = some (.int .i64 g'.tl) := (h11.ord [2]).cell (j := 0) rfl
          have q3 : W6.cell? ⟨B1, 1, none⟩ = some (.int .i64 g'.tc) := (h11.ord [2]).cell (j := 1) rfl
          have hM := HM.out
          have hch := hchanges (va := .slice va M.length vc) (vb := (.slice g'.ga g'.L.length g'.gc)) (A := M) (B := g'.L) (hM) h11 (ChRd.own (by simp [ordL]) (by simp [ordL])) (ChRd.held (rhistN_reads (p := r) (D := s.D ++ [g']) (U := D) (g := g') (by simp) (by simp [ordL])) Hheld.out)
          have Hch := Lib.hid hch
          have HW6 := Lib.hid hW6
          have HB2 := Lib.hid hB2
          clear h10 h11 hW6 hB2 Hc3 hch hM
          go_upto_region 15 with (fail)
          rw [← HW6.out, ← HB2.out, ← HB1.out]
          go_wp2_with fail
          refine Hch.out.mono ?_
          rintro e w7 ⟨rfl, h12⟩
          obtain ⟨s', hs', h13⟩ := Hboth.out _ ((h12.ord [1, 4, 4]).left (R := [_, _, _]))
          have H13 := Lib.hid h13
          have Hs' := Lib.hid hs'
          clear h12 h13 hs' Hch q0 q1 q2 q3 Hboth
          go_wp2_with fail
          go_meet
          exact ⟨_, Hs'.out, H13.out⟩
    case rest =>
      obtain ⟨s', hs', h7⟩ := hcut
      obtain ⟨da, dc, ua, uc, r0, r1⟩ := rlook h7
      have hpd := pdepth hs' (h7.ord [1])
      have hl1 := hs'.lens
      have hl2 := hs'.len
      obtain ⟨dl, hdl⟩ : ∃ dl, dl = s'.D.length := ⟨_, rfl⟩
      obtain ⟨ul, hul⟩ : ∃ ul, ul = s'.U.length := ⟨_, rfl⟩
      rw [← hdl] at hpd r0
      rw [← hul] at hpd r1
      have hd16 : dl ≤ 16 := by omega
      have hu16 : ul ≤ 16 := by omega
      have Hpd := Lib.hid hpd
      have Hs' := Lib.hid hs'
      have Hdl := Lib.hid hdl
      have Hul := Lib.hid hul
      clear hpd hs' h7 hl1 hl2 hdl hul Hs H6 H5
      go_wp2_with fail
      refine Hpd.out.mono ?_
      rintro e w5 ⟨rfl, h8⟩
      have H8 := Lib.hid ((h8.p1).left (R := [_, _]) (R' := [_]))
      obtain ⟨da2, dc2, ua2, uc2, t0, t1⟩ := rlook h8.p1
      rw [← Hdl.out] at t0
      rw [← Hul.out] at t1
      clear h8 Hpd
      go_wp2_with fail
      go_roundg (gk - 1)
      case measure => omega
      case rel => exact ⟨i + 1, s', by omega, by go_num, Hs'.out, H8.out⟩
end Go.Proofs.Ytchgkdhhfbppbaa
