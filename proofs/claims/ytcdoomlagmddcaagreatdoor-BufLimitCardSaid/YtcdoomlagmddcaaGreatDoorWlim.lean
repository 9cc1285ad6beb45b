/- The law BufLimit on values that read. -/
import Derived.Test.YtcdoomlagmddcaaGreatDoorBM
namespace Go.Proofs.YtcdoomlagmddcaaGreatDoor
open Go Go.RowKit Go.Fol
attribute [local go_sem ↓] Go.wp_at_zero Go.wp_at_succ
set_option linter.unusedVariables false
set_option linter.unusedSimpArgs false
set_option maxRecDepth 100000
set_option maxHeartbeats 4000000 in
theorem bufLimit_walk (w : World) (v0 v1 v2 : Value) (a0 : Arg Tryz.prog w 22 v0) (a1 : Arg Tryz.prog w 5 v1) (a2 : Arg Tryz.prog w 47 v2) (hL : laidMetH Tryz.prog Rows.bufLimitRow.laid w) (hS : w.ShapedOpen Tryz.prog) :
    Calls Tryz.prog 6 #[v0, v1, v2] w fun e w' => e = .returned (.bool true) ∧ Below w.heap.size w w' := by
  obtain ⟨L, la, lc, rfl, hs, hlc, hn16, hx⟩ := arg_lines a0
  obtain ⟨at_, rfl, wat⟩ := arg_int Tryz.underlying5 a1
  obtain ⟨ls, rfl, wls⟩ := arg_int Tryz.underlying47 a2
  obtain ⟨hat0, hat1⟩ := wf_u8 wat
  obtain ⟨n, hn⟩ : ∃ n, n = L.length := ⟨_, rfl⟩
  have HM : Hid (MaxInt w) := Lib.hid (maxInt_of hS)
  have hs63 := hs.n63
  rw [← hn] at hs hlc hs63 ⊢
  have Hs := Lib.hid (show ∀ R, RdL w R (.slice la n lc) L by intro R; unfold RdL; rw [← hn]; exact Reads.old hs)
  have Hn := Lib.hid hn
  have Hx := Lib.hid hx
  clear a0 a1 a2 wat wls hL hS hs hx hn hn16
  go_enter Tryz.func6, Tryz.ntmps6
  go_wp2_with fail
  refine (known_true HM.out (Owns.start w)).mono ?_
  rintro e w1 ⟨rfl, h1⟩
  have Ct := Lib.hid (htext Hn.out Hx.out h1 (Hs.out _))
  have H1 := Lib.hid h1
  clear h1
  go_wp2_with fail
  refine Ct.out.mono ?_
  rintro e w' ⟨⟨tb, rfl, htb⟩, rfl⟩
  clear Ct
  cases tb with
  | false =>
    go_wp2_with fail
    go_ret
    exact ⟨rfl, H1.out.below⟩
  | true =>
  obtain ⟨hLP, hne⟩ := htb rfl
  have hB := hLP.buf hne
  have hn0 : 0 < n := by rw [Hn.out]; exact List.length_pos_iff.2 hne
  have hn40 : n ≤ 40 := by rw [Hn.out]; exact hLP.len
  have HB := Lib.hid hB
  have HLP := Lib.hid hLP
  have Cn := Lib.hid (tnew Hn.out hB H1.out (Hs.out _))
  clear htb hLP hB hne
  go_wp2_with fail
  refine Cn.out.mono ?_
  rintro e w2 ⟨p, rfl, h2⟩
  dsimp only at h2
  have H2 := Lib.hid h2
  clear h2 Cn H1
  obtain ⟨a, ha⟩ : ∃ a : Nat, at_ % (n : Int) = (a : Int) := ⟨(at_ % (n : Int)).toNat, by have := Int.emod_nonneg at_ (show (n : Int) ≠ 0 by omega); omega⟩
  have han : a < n := by have := Int.emod_lt_of_pos at_ (show (0 : Int) < n by omega); omega
  obtain ⟨t, ht⟩ : ∃ t, ls.tmod 3 = t := ⟨_, rfl⟩
  have ht0 : -3 < t := by rw [← ht]; exact Int.lt_tmod_of_pos ls (by decide)
  have ht1 : t < 3 := by rw [← ht]; exact Int.tmod_lt_of_pos ls (by decide)
  obtain ⟨x, hxx⟩ : ∃ x, L[a]? = some x := ⟨_, List.getElem?_eq_getElem (by rw [← Hn.out]; exact han)⟩
  obtain ⟨lb, lo, lc', e1, hcc, hcell⟩ := rdl_cell (Hs.out []) hxx (Owns.start w)
  rw [← Hn.out] at e1 hcc
  cases e1
  have hsz : (bs x).size = x.length := bs_size x
  obtain ⟨m, hm⟩ : ∃ m, m = x.length := ⟨_, rfl⟩
  rw [← hm] at hsz
  obtain ⟨bk, hbk⟩ : ∃ bk, bk = bulkL L := ⟨_, rfl⟩
  have hbk2 : bk ≤ 1240 := by rw [hbk]; exact HLP.out.bulk
  have hmb : m + 1 ≤ bk := by
    have h1 := bulkL_take_succ hxx
    have h2 := bulkL_take_le L (a + 1)
    omega
  have k0 : w2.drew.cell? ⟨lb, lo + a, none⟩ = some (.string (bs x)) := H2.out.drew.chg.cell hcell (by simp)
  have q := rsize Hn.out H2.out.drew (Hs.out _) (by omega)
  rw [← hbk] at q
  have Q := Lib.hid q
  obtain ⟨lf, hlf⟩ : ∃ lf : Nat, (lf : Int) = 4096 - bk + m + t := ⟨(4096 - (bk : Int) + m + t).toNat, by omega⟩
  have hlf0 : 2850 ≤ lf := by omega
  have hlf1 : lf ≤ 4100 := by omega
  have hw1 : IntKind.i64.wrap (4096 - (bk : Int)) = 4096 - (bk : Int) := by rw [IntKind.wrap_i64]; omega
  have hw2 : IntKind.i64.wrap (4096 - (bk : Int) + m) = 4096 - (bk : Int) + m := by rw [IntKind.wrap_i64]; omega
  have hw3 : IntKind.i64.wrap (4096 - (bk : Int) + m + t) = (lf : Int) := by rw [IntKind.wrap_i64]; omega
  have hwt : IntKind.i64.wrap t = t := by rw [IntKind.wrap_i64]; omega
  have Hlf := Lib.hid hlf
  have Hm := Lib.hid hm
  have Hbk := Lib.hid hbk
  have Hxx := Lib.hid hxx
  clear hlf hm hbk hxx hcell q hcc
  go_upto_region 9 with (fail)
  refine wp_region_held_drew (S := (fun w' => w'.cell? ⟨lb, lo + a, none⟩ = some (.string (bs x)))) (by kernel_rfl) (k0) (fun hS0 => ?_)
  refine wpAnyH_take (i := 0) (oi := _) (v := .slice (some ⟨lb, lo, none⟩) n lc) rfl (by kernel_rfl) (by kernel_rfl) (by kernel_rfl) (fun _ _ _ h => h) (Or.inl ⟨by rfl, fun w hSw => ?_⟩) hS0 ?_
  · have x0 := hSw; go_simp
  try simp only [Act.put, List.setIfInBounds_toArray, List.set_cons_zero, List.set_cons_succ, List.getElem_toArray, List.getElem_cons_zero, List.getElem_cons_succ]
  refine wpAnyH_take (i := 3) (oi := _) (v := .slice (some ⟨lb, lo, none⟩) n lc) rfl (by kernel_rfl) (by kernel_rfl) (by kernel_rfl) (fun _ _ _ h => h) (Or.inl ⟨by rfl, fun w hSw => ?_⟩) hS0 ?_
  · have x0 := hSw; go_simp
  try simp only [Act.put, List.setIfInBounds_toArray, List.set_cons_zero, List.set_cons_succ, List.getElem_toArray, List.getElem_cons_zero, List.getElem_cons_succ]
  refine wpAnyH_take (i := 4) (oi := _) (v := .int .i64 a) rfl (by kernel_rfl) (by kernel_rfl) (by kernel_rfl) (fun _ _ _ h => h) (Or.inl ⟨by rfl, fun w hSw => ?_⟩) hS0 ?_
  · have x0 := hSw; go_simp
  try simp only [Act.put, List.setIfInBounds_toArray, List.set_cons_zero, List.set_cons_succ, List.getElem_toArray, List.getElem_cons_zero, List.getElem_cons_succ]
  refine wpAnyH_take (i := 5) (oi := _) (v := .pointer (some ⟨lb, lo + a, none⟩)) rfl (by kernel_rfl) (by kernel_rfl) (by kernel_rfl) (fun _ _ _ h => h) (Or.inl ⟨by rfl, fun w hSw => ?_⟩) hS0 ?_
  · have x0 := hSw; go_simp
  try simp only [Act.put, List.setIfInBounds_toArray, List.set_cons_zero, List.set_cons_succ, List.getElem_toArray, List.getElem_cons_zero, List.getElem_cons_succ]
  refine wpAnyH_take (i := 6) (oi := _) (v := .string (bs x)) rfl (by kernel_rfl) (by kernel_rfl) (by kernel_rfl) (fun _ _ _ h => h) (Or.inl ⟨by rfl, fun w hSw => ?_⟩) hS0 ?_
  · have x0 := hSw; go_simp
  try simp only [Act.put, List.setIfInBounds_toArray, List.set_cons_zero, List.set_cons_succ, List.getElem_toArray, List.getElem_cons_zero, List.getElem_cons_succ]
  refine wpAnyH_take (i := 7) (oi := _) (v := .int .i64 m) rfl (by kernel_rfl) (by kernel_rfl) (by kernel_rfl) (fun _ _ _ h => h) (Or.inl ⟨by rfl, fun w hSw => ?_⟩) hS0 ?_
  · have x0 := hSw; go_simp
  try simp only [Act.put, List.setIfInBounds_toArray, List.set_cons_zero, List.set_cons_succ, List.getElem_toArray, List.getElem_cons_zero, List.getElem_cons_succ]
  refine wpAnyH_take (i := 9) (oi := _) (v := .int .i8 ls) rfl (by kernel_rfl) (by kernel_rfl) (by kernel_rfl) (fun _ _ _ h => h) (Or.inl ⟨by rfl, fun w hSw => ?_⟩) hS0 ?_
  · have x0 := hSw; go_simp
  try simp only [Act.put, List.setIfInBounds_toArray, List.set_cons_zero, List.set_cons_succ, List.getElem_toArray, List.getElem_cons_zero, List.getElem_cons_succ]
  refine wpAnyH_take (i := 10) (oi := _) (v := .int .i8 t) rfl (by kernel_rfl) (by kernel_rfl) (by kernel_rfl) (fun _ _ _ h => h) (Or.inl ⟨by rfl, fun w hSw => ?_⟩) hS0 ?_
  · have x0 := hSw; go_simp
  try simp only [Act.put, List.setIfInBounds_toArray, List.set_cons_zero, List.set_cons_succ, List.getElem_toArray, List.getElem_cons_zero, List.getElem_cons_succ]
  refine wpAnyH_take (i := 11) (oi := _) (v := .int .i64 t) rfl (by kernel_rfl) (by kernel_rfl) (by kernel_rfl) (fun _ _ _ h => h) (Or.inl ⟨by rfl, fun w hSw => ?_⟩) hS0 ?_
  · have x0 := hSw; go_simp
  try simp only [Act.put, List.setIfInBounds_toArray, List.set_cons_zero, List.set_cons_succ, List.getElem_toArray, List.getElem_cons_zero, List.getElem_cons_succ]
  refine wpAnyH_ready (rs := [1]) (by kernel_rfl) (by simp) (AllReadyH.cons (o := _) rfl (fun K' hK => ?_) AllReadyH.nil)
  simp only [List.getElem_toArray, List.getElem_cons_zero, List.getElem_cons_succ]
  rw [if_pos (by rfl)]
  go_simp
  refine Q.out.mono ?_
  rintro e w3 ⟨rfl, rfl⟩
  refine hK.out _ _ (k0) (fun hS1 => ?_)
  clear hK K' hS0
  try simp only [Act.put, List.setIfInBounds_toArray, List.set_cons_zero, List.set_cons_succ, List.getElem_toArray, List.getElem_cons_zero, List.getElem_cons_succ]
  refine wpAnyH_take (i := 2) (oi := _) (v := .int .i64 (4096 - (bk : Int))) rfl (by kernel_rfl) (by kernel_rfl) (by kernel_rfl) (fun _ _ _ h => h) (Or.inl ⟨by rfl, fun w hSw => ?_⟩) hS1 ?_
  · have x0 := hSw; go_simp
  try simp only [Act.put, List.setIfInBounds_toArray, List.set_cons_zero, List.set_cons_succ, List.getElem_toArray, List.getElem_cons_zero, List.getElem_cons_succ]
  refine wpAnyH_take (i := 8) (oi := _) (v := .int .i64 (4096 - (bk : Int) + m)) rfl (by kernel_rfl) (by kernel_rfl) (by kernel_rfl) (fun _ _ _ h => h) (Or.inl ⟨by rfl, fun w hSw => ?_⟩) hS1 ?_
  · have x0 := hSw; go_simp
  try simp only [Act.put, List.setIfInBounds_toArray, List.set_cons_zero, List.set_cons_succ, List.getElem_toArray, List.getElem_cons_zero, List.getElem_cons_succ]
  refine wpAnyH_take (i := 12) (oi := _) (v := .int .i64 lf) rfl (by kernel_rfl) (by kernel_rfl) (by kernel_rfl) (fun _ _ _ h => h) (Or.inl ⟨by rfl, fun w hSw => ?_⟩) hS1 ?_
  · have x0 := hSw; go_simp
  try simp only [Act.put, List.setIfInBounds_toArray, List.set_cons_zero, List.set_cons_succ, List.getElem_toArray, List.getElem_cons_zero, List.getElem_cons_succ]
  refine wpAnyH_take (i := 13) (oi := _) (v := .int .i64 lf) rfl (by kernel_rfl) (by kernel_rfl) (by kernel_rfl) (fun _ _ _ h => h) (Or.inl ⟨by rfl, fun w hSw => ?_⟩) hS1 ?_
  · have x0 := hSw; go_simp
  try simp only [Act.put, List.setIfInBounds_toArray, List.set_cons_zero, List.set_cons_succ, List.getElem_toArray, List.getElem_cons_zero, List.getElem_cons_succ]
  refine wpAnyH_done (by kernel_rfl) ?_ _
  try dsimp only [Whole]
  clear hw1 hw2 hw3 k0 Q
  have hmk := run_make0 lf (by omega)
  have hcv : (convert 37 9 (.slice (some ⟨w2.heap.size, 0, none⟩) lf lf)).run Tryz.prog ((w2.alloc (.cells (madeCells #[Value.int .u8 0] lf) 5)).drew) = .ok (.string (bs (zeros lf))) ((w2.alloc (.cells (madeCells #[Value.int .u8 0] lf) 5)).drew) := conv0 lf (by omega) w2.drew
  have h3 := ((H2.out.alloc0 (.cells (madeCells #[Value.int .u8 0] lf) 5)).alloc #[.string (bs (zeros lf))] 9).drew
  obtain ⟨W4, hW4⟩ : ∃ W4, W4 = ((w2.alloc (.cells (madeCells #[Value.int .u8 0] lf) 5)).alloc (.cells #[.string (bs (zeros lf))] 9)).drew := ⟨_, rfl⟩
  have h3 : Owns w W4 (Asrt.obj (w2.heap.size + 1) (.cells #[.string (bs (zeros lf))] 9 (0, 0)) :: tbufA p (joinL L) 0 0 :: []) := by
    rw [World.size_alloc, ← hW4] at h3
    exact h3
  obtain ⟨B, hB5⟩ : ∃ B, B = w2.heap.size + 1 := ⟨_, rfl⟩
  rw [← hB5] at h3
  have hk4 : RdL w (Asrt.obj B (.cells #[.string (bs (zeros lf))] 9 (0, 0)) :: []) (.slice (some ⟨B, 0, none⟩) 1 1) [zeros lf] := Reads.obj (k := 1) (n := 1) (c := 1) List.mem_cons_self (by decide) (by decide) (by simp)
  have hbl : bulkL [zeros lf] = lf + 1 := by simp only [bulkL, zeros_len]
  have c4 := breplace (a := a) (m := 1) (n := 1) (L := [zeros lf]) HB.out HM.out (by rw [← Hn.out]; omega) rfl hk4 (by simp [brokenB, zeros_lf]) (by rw [hbl]; omega) (by rw [hbl]; omega) (by decide) h3.p1
  have e4 : newLs L [zeros lf] 1 = [zeros lf] := by rw [newLs, if_neg (fun h => by cases h.2)]
  rw [e4] at c4
  have C4 := Lib.hid (show Calls Tryz.prog 13 #[.pointer (some ⟨p, 0, none⟩), .int .i64 a, .int .i64 1, .slice (some ⟨B, 0, none⟩) 1 1] W4 _ from c4)
  have hrb : (bulkL (repL L a 1 [zeros lf]) : Int) = 4096 + t := by
    have h1 := repL_bulk (W := L) (a := a) (n := 1) (L := [zeros lf]) (by rw [← Hn.out]; omega)
    have h2 := bulk_mid L a 1
    have h5 := bulkL_take_succ Hxx.out
    have h6 := Hlf.out
    rw [← Hm.out] at h5
    rw [hbl, ← Hbk.out] at h1
    omega
  have hne2 : repL L a 1 [zeros lf] ≠ [] := by rw [repL]; simp
  obtain ⟨V, hV⟩ : ∃ V, V = repL L a 1 [zeros lf] := ⟨_, rfl⟩
  have HV := Lib.hid hV
  have Hrb := Lib.hid hrb
  have HB5 := Lib.hid hB5
  have HW4 := Lib.hid hW4
  clear h3 hk4 c4 e4 hbl hrb hB5 hW4 hV H2 hlf0 hlf1
  go_upto_region 11 with (fail)
  go_wp2_with fail
  rw [← HW4.out, ← HB5.out]
  refine C4.out.mono ?_
  rintro e w5 hrp
  have hrb := Hrb.out
  rw [← HV.out] at hrb
  by_cases ht5 : 0 < t
  · obtain ⟨rfl, h5⟩ := rep_full hrp (by rw [← HV.out]; omega)
    have Cw := Lib.hid (whole_true HB.out HM.out Hn.out (Hs.out _) (by decide) h5)
    clear hrp hrb h5 HV Hrb HW4 HB5 C4 hne2 hmk hcv HB HLP Hm Hbk Hlf Hxx hbk2 hmb hsz
    have ht6 : decide (0 < t) = true := decide_eq_true ht5
    go_wp2_with fail
    refine Cw.out.mono ?_
    rintro e w6 ⟨rfl, h6⟩
    have H6 := Lib.hid h6
    clear h6 Cw
    go_wp2_with fail
    go_ret
    exact ⟨rfl, H6.out.below⟩
  · obtain ⟨rfl, ed5, hed5, h5⟩ := rep_ok hrp (by rw [← HV.out]; omega)
    rw [← HV.out] at h5
    have hBV : BufI V := by rw [HV.out]; exact HB.out.rep (by simp [brokenB, zeros_lf]) hne2 (by rw [← HV.out]; omega)
    have cb := bbytes hBV h5
    rw [hrb] at cb
    have Cb := Lib.hid cb
    have H5 := Lib.hid h5
    have ht6 : decide (0 < t) = false := decide_eq_false ht5
    have hwg : IntKind.i64.wrap (4096 + t) = 4096 + t := by rw [IntKind.wrap_i64]; omega
    clear hrp hrb h5 cb hBV HV Hrb HW4 HB5 C4 hne2 hmk hcv HB HLP Hm Hbk Hlf Hxx hbk2 hmb hsz
    go_wp2_with fail
    refine Cb.out.mono ?_
    rintro e w6 ⟨rfl, rfl⟩
    clear Cb
    go_wp2_with fail
    go_ret
    exact ⟨rfl, H5.out.below⟩
end Go.Proofs.YtcdoomlagmddcaaGreatDoor
