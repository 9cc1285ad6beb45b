/- The law BufEmpty on values that read. -/
import Derived.Test.YtcdoomlagmddcaaGreatDoorBL
namespace Go.Proofs.YtcdoomlagmddcaaGreatDoor
open Go Go.RowKit Go.Fol
attribute [local go_sem ↓] Go.wp_at_zero Go.wp_at_succ
set_option linter.unusedVariables false
set_option linter.unusedSimpArgs false
set_option maxRecDepth 100000
set_option maxHeartbeats 4000000 in
theorem bufEmpty_walk (w : World) (v0 v1 v2 : Value) (a0 : Arg Tryz.prog w 22 v0) (a1 : Arg Tryz.prog w 5 v1) (a2 : Arg Tryz.prog w 5 v2) (hL : laidMetH Tryz.prog Rows.bufEmptyRow.laid w) (hS : w.ShapedOpen Tryz.prog) :
    Calls Tryz.prog 7 #[v0, v1, v2] w fun e w' => e = .returned (.bool true) ∧ Below w.heap.size w w' := by
  obtain ⟨L, la, lc, rfl, hs, hlc, hn16, hx⟩ := arg_lines a0
  obtain ⟨at_, rfl, wat⟩ := arg_int Tryz.underlying5 a1
  obtain ⟨nn, rfl, wnn⟩ := arg_int Tryz.underlying5 a2
  obtain ⟨hat0, hat1⟩ := wf_u8 wat
  obtain ⟨hnn0, hnn1⟩ := wf_u8 wnn
  obtain ⟨n, hn⟩ : ∃ n, n = L.length := ⟨_, rfl⟩
  have HM : Hid (MaxInt w) := Lib.hid (maxInt_of hS)
  have hs63 := hs.n63
  rw [← hn] at hs hlc hs63 ⊢
  have Hs := Lib.hid (show ∀ R, RdL w R (.slice la n lc) L by intro R; unfold RdL; rw [← hn]; exact Reads.old hs)
  have Hn := Lib.hid hn
  have Hx := Lib.hid hx
  clear a0 a1 a2 wat wnn hL hS hs hx hn hn16
  go_enter Tryz.func7, Tryz.ntmps7
  go_wp2_with fail
  refine (known_true HM.out (Owns.start w)).mono ?_
  rintro e w1 ⟨rfl, h1⟩
  have Ct := Lib.hid (htext Hn.out Hx.out h1 (Hs.out _))
  have H1 := Lib.hid h1
  clear h1
  go_wp2_with fail
  refine Ct.out.mono ?_
  rintro e w' ⟨⟨tb, rfl, htb⟩, rfl⟩
  clear Ct
  cases tb with
  | false =>
    go_wp2_with fail
    go_ret
    exact ⟨rfl, H1.out.below⟩
  | true =>
  obtain ⟨hLP, hne⟩ := htb rfl
  have hB := hLP.buf hne
  have hn0 : 0 < n := by rw [Hn.out]; exact List.length_pos_iff.2 hne
  have hn40 : n ≤ 40 := by rw [Hn.out]; exact hLP.len
  have HB := Lib.hid hB
  have HLP := Lib.hid hLP
  have Cn := Lib.hid (tnew Hn.out hB H1.out (Hs.out _))
  clear htb hLP hB hne
  go_wp2_with fail
  refine Cn.out.mono ?_
  rintro e w2 ⟨p, rfl, h2⟩
  dsimp only at h2
  have c2 := breplace (a := 0) (m := n) (L := []) HB.out HM.out (by have := Hn.out; omega) rfl rdl_nil rfl (by decide) (by decide) (by decide) h2
  have e2 : newLs L [] n = [[]] := by rw [newLs, if_pos ⟨Hn.out, rfl⟩]
  rw [e2] at c2
  have C2 := Lib.hid (show Calls Tryz.prog 13 #[.pointer (some ⟨p, 0, none⟩), .int .i64 0, .int .i64 n, .slice none 0 0] w2 _ from c2)
  clear h2 c2 e2 Cn H1
  go_wp2_with fail
  refine C2.out.mono ?_
  rintro e w3 hr
  have hrp : repL L 0 n [[]] = [[]] := by rw [Hn.out, rep_all]
  obtain ⟨rfl, ed3, hed3, h3⟩ := rep_ok hr (by rw [hrp]; decide)
  rw [hrp] at h3
  have h4 := h3.alloc #[.string ⟨#[]⟩] 9
  have hk4 : RdL w (Asrt.obj w3.heap.size (.cells #[.string ⟨#[]⟩] 9 (0, 0)) :: []) (.slice (some ⟨w3.heap.size, 0, none⟩) 1 1) [[]] := Reads.obj (k := 1) (n := 1) (c := 1) List.mem_cons_self (by decide) (by decide) (by simp)
  have C3 := Lib.hid (whole_true (c := 1) (W := [[]]) ⟨by simp, rfl, by decide⟩ HM.out rfl hk4 (by omega) h4.p1)
  clear hr hrp h3 h4 hk4 C2
  go_wp2_with fail
  refine C3.out.mono ?_
  rintro e w4 ⟨rfl, h5⟩
  have h5 := h5.drop.drop
  have Cn := Lib.hid (tnew Hn.out HB.out h5 (Hs.out _))
  clear h5 C3
  go_wp2_with fail
  refine Cn.out.mono ?_
  rintro e w5 ⟨q, rfl, h6⟩
  dsimp only at h6
  have H6 := Lib.hid h6
  clear h6 Cn
  obtain ⟨a, ha⟩ : ∃ a : Nat, at_ % (n : Int) = (a : Int) := ⟨(at_ % (n : Int)).toNat, by have := Int.emod_nonneg at_ (show (n : Int) ≠ 0 by omega); omega⟩
  have han : a < n := by have := Int.emod_lt_of_pos at_ (show (0 : Int) < n by omega); omega
  obtain ⟨r, hr⟩ : ∃ r : Nat, r = n - a + 1 := ⟨_, rfl⟩
  have hd1 : wrap64 (wrap64 ((n : Int) - a) + 1) = (r : Int) := by unfold wrap64; omega
  have hr0 : 0 < r := by omega
  obtain ⟨k, hk⟩ : ∃ k : Nat, nn % (r : Int) = (k : Int) := ⟨(nn % (r : Int)).toNat, by have := Int.emod_nonneg nn (show (r : Int) ≠ 0 by omega); omega⟩
  have hkr : k < r := by have := Int.emod_lt_of_pos nn (show (0 : Int) < r by omega); omega
  have hak : a + k ≤ n := by omega
  have hk2 : nn % ((n : Int) - a + 1) = (k : Int) := by rw [show (n : Int) - a + 1 = r by omega]; exact hk
  have c3 := breplace (a := a) (m := k) (L := []) HB.out HM.out (by have := Hn.out; omega) rfl rdl_nil rfl (by decide) (by decide) (by decide) H6.out
  obtain ⟨N, hN⟩ : ∃ N, N = newLs L [] k := ⟨_, rfl⟩
  rw [← hN] at c3
  have C3 := Lib.hid (show Calls Tryz.prog 13 #[.pointer (some ⟨q, 0, none⟩), .int .i64 a, .int .i64 k, .slice none 0 0] w5 _ from c3)
  have HN := Lib.hid hN
  have Hr := Lib.hid hr
  clear c3 hN H6 hr
  go_wp2_with fail
  refine C3.out.mono ?_
  rintro e w6 hrp
  have Ha := Lib.hid ha
  have Hk2 := Lib.hid hk2
  clear ha hk hk2 hd1 hkr hr0
  have hbl : bulkL N ≤ 1 := by rw [HN.out, newLs]; split <;> decide
  have hfit : bulkL (repL L a k N) ≤ 4096 := by
    have h1 := repL_bulk (W := L) (a := a) (n := k) (L := N) (by rw [← Hn.out]; exact hak)
    have h2 := HLP.out.bulk
    omega
  obtain ⟨rfl, ed6, hed6, h7⟩ := rep_ok hrp hfit
  have hnb : brokenB N = false := by rw [HN.out, newLs]; split <;> rfl
  obtain ⟨D, hD⟩ : ∃ D, D = L.take a ++ L.drop (a + k) := ⟨_, rfl⟩
  have hDN : repL L a k N = if D = [] then [[]] else D := by
    rw [HN.out, newLs]
    by_cases hkn : k = L.length
    · have ha0 : a = 0 := by have := Hn.out; omega
      rw [if_pos ⟨hkn, rfl⟩, if_pos (by rw [hD, ha0, hkn]; simp), ha0, hkn, rep_all]
    · have hne : D ≠ [] := fun e => by
        have h1 := congrArg List.length e
        rw [hD, List.length_append, List.length_take, List.length_drop, List.length_nil] at h1
        have := Hn.out
        omega
      rw [if_neg (fun h => hkn h.1), if_neg hne, repL, hD, List.append_nil]
  have hB2 : BufI (repL L a k N) := HB.out.rep hnb (by rw [hDN]; split <;> simp_all) hfit
  obtain ⟨V, hV⟩ : ∃ V, V = repL L a k N := ⟨_, rfl⟩
  rw [← hV] at h7 hDN hB2
  have H7 := Lib.hid h7
  have HD := Lib.hid hD
  have HDN := Lib.hid hDN
  have HB2 := Lib.hid hB2
  clear hrp hbl hfit hnb h7 hD hDN hB2 C3 hV
  obtain ⟨d, hd⟩ : ∃ d, d = a + k := ⟨_, rfl⟩
  have hwd : IntKind.i64.wrap ((a : Int) + k) = (d : Int) := by rw [IntKind.wrap_i64]; omega
  have hdn : d ≤ n := by omega
  obtain ⟨lb, lo, lc', e1, _, _, _⟩ := (Hs.out [] w (Owns.start w)).cells (by rw [← Hn.out]; exact hn0) (by decide)
  rw [← Hn.out] at e1
  cases e1
  have hal : a ≤ lc := Nat.le_trans (Nat.le_of_lt han) hlc
  have Hd := Lib.hid hd
  clear hd
  go_upto_region 13 with (fail)
  obtain ⟨s1, w7, hr1, h8⟩ := lapp (s := .slice none 0 0) (n := 0) (A := []) (m := a) (B := L.take a) rfl (by rw [List.length_take, ← Hn.out]; omega) (H7.out.drew.rowNil 9 1) (rdl_pre Hn.out (Hs.out _) (by omega)) (by omega)
  rw [List.nil_append] at h8
  have tail : ∀ (A2 : Option Addr), (if lc = d then some ⟨lb, lo, none⟩ else Option.map (fun x : Addr => x.add d) (some ⟨lb, lo, none⟩)) = A2 →
      ∃ (s2a : Option Addr) (s2c : Nat) (w8 : World), (∀ ty, (Builtin.append_ #[22, 22] ty #[s1, .slice A2 (n - d) (lc - d)]).run Tryz.prog w7 = .ok (.slice s2a D.length s2c) w8) ∧ Owns w w8 (row_str (.slice s2a D.length s2c) D.length (lstrs D) :: tbufA q (joinL V) ed6 (0 + bulkL N) :: []) := by
    intro A2 hA2
    obtain ⟨v2, w8, hr2, h9⟩ := lapp rfl (by rw [List.length_drop, ← Hn.out]) h8 (rdl_post Hn.out (Hs.out _) hdn hA2) (by rw [List.length_take]; omega)
    rw [show L.take a ++ L.drop d = D by rw [HD.out, Hd.out]] at h9
    obtain ⟨s2a, s2c, rfl⟩ := row_slice h9.row
    exact ⟨s2a, s2c, w8, hr2, h9⟩
  have Tail := Lib.hid tail
  clear tail h8
  by_cases hcd : lc = d
  · obtain rfl : d = lc := hcd.symm
    obtain ⟨s2a, s2c, w8, hr2, h9⟩ := Tail.out (some ⟨lb, lo, none⟩) (if_pos rfl)
    have H9 := Lib.hid h9
    clear h9 Tail
    have ha := Ha.out
    have hk2 := Hk2.out
    refine wp_region_held_drew (S := (fun _ => True)) (by kernel_rfl) trivial (fun hS0 => ?_)
    refine wpAnyH_take (i := 0) (oi := _) (v := .slice (some ⟨lb, lo, none⟩) n d) rfl (by kernel_rfl) (by kernel_rfl) (by kernel_rfl) (fun _ _ _ h => h) (Or.inl ⟨by rfl, fun w hSw => ?_⟩) hS0 ?_
    · go_simp
    try simp only [Act.put, List.setIfInBounds_toArray, List.set_cons_zero, List.set_cons_succ, List.getElem_toArray, List.getElem_cons_zero, List.getElem_cons_succ]
    refine wpAnyH_take (i := 1) (oi := _) (v := .int .i64 a) rfl (by kernel_rfl) (by kernel_rfl) (by kernel_rfl) (fun _ _ _ h => h) (Or.inl ⟨by rfl, fun w hSw => ?_⟩) hS0 ?_
    · go_simp
    try simp only [Act.put, List.setIfInBounds_toArray, List.set_cons_zero, List.set_cons_succ, List.getElem_toArray, List.getElem_cons_zero, List.getElem_cons_succ]
    refine wpAnyH_take (i := 2) (oi := _) (v := .slice (some ⟨lb, lo, none⟩) a d) rfl (by kernel_rfl) (by kernel_rfl) (by kernel_rfl) (fun _ _ _ h => h) (Or.inl ⟨by rfl, fun w hSw => ?_⟩) hS0 ?_
    · go_simp
    try simp only [Act.put, List.setIfInBounds_toArray, List.set_cons_zero, List.set_cons_succ, List.getElem_toArray, List.getElem_cons_zero, List.getElem_cons_succ]
    refine wpAnyH_take (i := 4) (oi := _) (v := .slice (some ⟨lb, lo, none⟩) n d) rfl (by kernel_rfl) (by kernel_rfl) (by kernel_rfl) (fun _ _ _ h => h) (Or.inl ⟨by rfl, fun w hSw => ?_⟩) hS0 ?_
    · go_simp
    try simp only [Act.put, List.setIfInBounds_toArray, List.set_cons_zero, List.set_cons_succ, List.getElem_toArray, List.getElem_cons_zero, List.getElem_cons_succ]
    refine wpAnyH_take (i := 5) (oi := _) (v := .int .i64 a) rfl (by kernel_rfl) (by kernel_rfl) (by kernel_rfl) (fun _ _ _ h => h) (Or.inl ⟨by rfl, fun w hSw => ?_⟩) hS0 ?_
    · go_simp
    try simp only [Act.put, List.setIfInBounds_toArray, List.set_cons_zero, List.set_cons_succ, List.getElem_toArray, List.getElem_cons_zero, List.getElem_cons_succ]
    refine wpAnyH_take (i := 6) (oi := _) (v := .int .i64 k) rfl (by kernel_rfl) (by kernel_rfl) (by kernel_rfl) (fun _ _ _ h => h) (Or.inl ⟨by rfl, fun w hSw => ?_⟩) hS0 ?_
    · go_simp
    try simp only [Act.put, List.setIfInBounds_toArray, List.set_cons_zero, List.set_cons_succ, List.getElem_toArray, List.getElem_cons_zero, List.getElem_cons_succ]
    refine wpAnyH_take (i := 7) (oi := _) (v := .int .i64 d) rfl (by kernel_rfl) (by kernel_rfl) (by kernel_rfl) (fun _ _ _ h => h) (Or.inl ⟨by rfl, fun w hSw => ?_⟩) hS0 ?_
    · go_simp
    try simp only [Act.put, List.setIfInBounds_toArray, List.set_cons_zero, List.set_cons_succ, List.getElem_toArray, List.getElem_cons_zero, List.getElem_cons_succ]
    refine wpAnyH_take (i := 8) (oi := _) (v := .slice (some ⟨lb, lo, none⟩) (n - d) (d - d)) rfl (by kernel_rfl) (by kernel_rfl) (by kernel_rfl) (fun _ _ _ h => h) (Or.inl ⟨by rfl, fun w hSw => ?_⟩) hS0 ?_
    · go_simp
    try simp only [Act.put, List.setIfInBounds_toArray, List.set_cons_zero, List.set_cons_succ, List.getElem_toArray, List.getElem_cons_zero, List.getElem_cons_succ]
    refine wpAnyH_ready (rs := [3]) (by kernel_rfl) (by simp) (AllReadyH.cons (o := _) rfl (fun K' hK => ?_) AllReadyH.nil)
    simp only [List.getElem_toArray, List.getElem_cons_zero, List.getElem_cons_succ]
    rw [if_pos (by rfl)]
    refine wp_append_run (.const (.slice none 0 0)) (.tmp 68) 22 22 (.slice none 0 0) (.slice (some ⟨lb, lo, none⟩) a d) (hr1 22) rfl rfl rfl ?_
    refine hK.out _ _ trivial (fun hS1 => ?_)
    clear hK K' hS0
    try simp only [Act.put, List.setIfInBounds_toArray, List.set_cons_zero, List.set_cons_succ, List.getElem_toArray, List.getElem_cons_zero, List.getElem_cons_succ]
    refine wpAnyH_ready (rs := [9]) (by kernel_rfl) (by simp) (AllReadyH.cons (o := _) rfl (fun K' hK => ?_) AllReadyH.nil)
    simp only [List.getElem_toArray, List.getElem_cons_zero, List.getElem_cons_succ]
    rw [if_pos (by rfl)]
    refine wp_append_run (.tmp 69) (.tmp 74) 22 22 s1 (.slice (some ⟨lb, lo, none⟩) (n - d) (d - d)) (hr2 22) rfl rfl rfl ?_
    refine hK.out _ _ trivial (fun hS2 => ?_)
    clear hK K' hS1
    try simp only [Act.put, List.setIfInBounds_toArray, List.set_cons_zero, List.set_cons_succ, List.getElem_toArray, List.getElem_cons_zero, List.getElem_cons_succ]
    refine wpAnyH_take (i := 10) (oi := _) (v := .slice s2a D.length s2c) rfl (by kernel_rfl) (by kernel_rfl) (by kernel_rfl) (fun _ _ _ h => h) (Or.inl ⟨by rfl, fun w hSw => ?_⟩) hS2 ?_
    · go_simp
    try simp only [Act.put, List.setIfInBounds_toArray, List.set_cons_zero, List.set_cons_succ, List.getElem_toArray, List.getElem_cons_zero, List.getElem_cons_succ]
    refine wpAnyH_done (by kernel_rfl) ?_ _
    try dsimp only [Whole]
    clear hr1 hr2 ha hk2
    by_cases hD0 : D = []
    · have hv := HDN.out
      rw [if_pos hD0] at hv
      subst hD0
      have h10 := H9.out.alloc #[.string ⟨#[]⟩] 9
      have hk5 : RdL w (Asrt.obj w8.heap.size (.cells #[.string ⟨#[]⟩] 9 (0, 0)) :: row_str (.slice s2a ([] : Ls).length s2c) ([] : Ls).length (lstrs []) :: []) (.slice (some ⟨w8.heap.size, 0, none⟩) 1 1) [[]] := Reads.obj (k := 1) (n := 1) (c := 1) List.mem_cons_self (by decide) (by decide) (by simp)
      have hb := HB2.out
      rw [hv] at h10 hb
      have Cw := Lib.hid (whole_true (c := 1) (W := [[]]) hb HM.out rfl hk5 (by omega) (h10.ord [2]))
      clear hv h10 hk5 hb H9 HDN HD HB2
      go_wp2_with fail
      refine Cw.out.mono ?_
      rintro e w9 ⟨rfl, h11⟩
      have H11 := Lib.hid h11
      clear h11 Cw
      go_wp2_with fail
      go_ret
      exact ⟨rfl, H11.out.below⟩
    · have hv := HDN.out
      rw [if_neg hD0] at hv
      subst hv
      have hDl : 0 < V.length := List.length_pos_iff.2 hD0
      have hDz : ((V.length : Int) == 0) = false := beq_eq_false_iff_ne.2 (by omega)
      have hDz2 : ¬ V.length = 0 := by omega
      obtain ⟨dl, hdl⟩ : ∃ dl, dl = V.length := ⟨_, rfl⟩
      have Cw := Lib.hid (whole_true (c := V.length) (W := V) HB2.out HM.out rfl (Reads.row (e := 9) List.mem_cons_self) (by omega) H9.out.p1)
      rw [← hdl] at Cw hDl hDz hDz2 ⊢
      clear hD0 H9 HDN HD HB2 hdl
      go_wp2_with fail
      refine Cw.out.mono ?_
      rintro e w9 ⟨rfl, h11⟩
      have H11 := Lib.hid h11
      clear h11 Cw
      go_wp2_with fail
      go_ret
      exact ⟨rfl, H11.out.below⟩
  · obtain ⟨s2a, s2c, w8, hr2, h9⟩ := Tail.out (some ⟨lb, lo + d, none⟩) (by rw [if_neg hcd]; simp [Addr.add_lit])
    have H9 := Lib.hid h9
    clear h9 Tail
    have ha := Ha.out
    have hk2 := Hk2.out
    refine wp_region_held_drew (S := (fun _ => True)) (by kernel_rfl) trivial (fun hS0 => ?_)
    refine wpAnyH_take (i := 0) (oi := _) (v := .slice (some ⟨lb, lo, none⟩) n lc) rfl (by kernel_rfl) (by kernel_rfl) (by kernel_rfl) (fun _ _ _ h => h) (Or.inl ⟨by rfl, fun w hSw => ?_⟩) hS0 ?_
    · go_simp
    try simp only [Act.put, List.setIfInBounds_toArray, List.set_cons_zero, List.set_cons_succ, List.getElem_toArray, List.getElem_cons_zero, List.getElem_cons_succ]
    refine wpAnyH_take (i := 1) (oi := _) (v := .int .i64 a) rfl (by kernel_rfl) (by kernel_rfl) (by kernel_rfl) (fun _ _ _ h => h) (Or.inl ⟨by rfl, fun w hSw => ?_⟩) hS0 ?_
    · go_simp
    try simp only [Act.put, List.setIfInBounds_toArray, List.set_cons_zero, List.set_cons_succ, List.getElem_toArray, List.getElem_cons_zero, List.getElem_cons_succ]
    refine wpAnyH_take (i := 2) (oi := _) (v := .slice (some ⟨lb, lo, none⟩) a lc) rfl (by kernel_rfl) (by kernel_rfl) (by kernel_rfl) (fun _ _ _ h => h) (Or.inl ⟨by rfl, fun w hSw => ?_⟩) hS0 ?_
    · go_simp
    try simp only [Act.put, List.setIfInBounds_toArray, List.set_cons_zero, List.set_cons_succ, List.getElem_toArray, List.getElem_cons_zero, List.getElem_cons_succ]
    refine wpAnyH_take (i := 4) (oi := _) (v := .slice (some ⟨lb, lo, none⟩) n lc) rfl (by kernel_rfl) (by kernel_rfl) (by kernel_rfl) (fun _ _ _ h => h) (Or.inl ⟨by rfl, fun w hSw => ?_⟩) hS0 ?_
    · go_simp
    try simp only [Act.put, List.setIfInBounds_toArray, List.set_cons_zero, List.set_cons_succ, List.getElem_toArray, List.getElem_cons_zero, List.getElem_cons_succ]
    refine wpAnyH_take (i := 5) (oi := _) (v := .int .i64 a) rfl (by kernel_rfl) (by kernel_rfl) (by kernel_rfl) (fun _ _ _ h => h) (Or.inl ⟨by rfl, fun w hSw => ?_⟩) hS0 ?_
    · go_simp
    try simp only [Act.put, List.setIfInBounds_toArray, List.set_cons_zero, List.set_cons_succ, List.getElem_toArray, List.getElem_cons_zero, List.getElem_cons_succ]
    refine wpAnyH_take (i := 6) (oi := _) (v := .int .i64 k) rfl (by kernel_rfl) (by kernel_rfl) (by kernel_rfl) (fun _ _ _ h => h) (Or.inl ⟨by rfl, fun w hSw => ?_⟩) hS0 ?_
    · go_simp
    try simp only [Act.put, List.setIfInBounds_toArray, List.set_cons_zero, List.set_cons_succ, List.getElem_toArray, List.getElem_cons_zero, List.getElem_cons_succ]
    refine wpAnyH_take (i := 7) (oi := _) (v := .int .i64 d) rfl (by kernel_rfl) (by kernel_rfl) (by kernel_rfl) (fun _ _ _ h => h) (Or.inl ⟨by rfl, fun w hSw => ?_⟩) hS0 ?_
    · go_simp
    try simp only [Act.put, List.setIfInBounds_toArray, List.set_cons_zero, List.set_cons_succ, List.getElem_toArray, List.getElem_cons_zero, List.getElem_cons_succ]
    refine wpAnyH_take (i := 8) (oi := _) (v := .slice (some ⟨lb, lo + d, none⟩) (n - d) (lc - d)) rfl (by kernel_rfl) (by kernel_rfl) (by kernel_rfl) (fun _ _ _ h => h) (Or.inl ⟨by rfl, fun w hSw => ?_⟩) hS0 ?_
    · go_simp
    try simp only [Act.put, List.setIfInBounds_toArray, List.set_cons_zero, List.set_cons_succ, List.getElem_toArray, List.getElem_cons_zero, List.getElem_cons_succ]
    refine wpAnyH_ready (rs := [3]) (by kernel_rfl) (by simp) (AllReadyH.cons (o := _) rfl (fun K' hK => ?_) AllReadyH.nil)
    simp only [List.getElem_toArray, List.getElem_cons_zero, List.getElem_cons_succ]
    rw [if_pos (by rfl)]
    refine wp_append_run (.const (.slice none 0 0)) (.tmp 68) 22 22 (.slice none 0 0) (.slice (some ⟨lb, lo, none⟩) a lc) (hr1 22) rfl rfl rfl ?_
    refine hK.out _ _ trivial (fun hS1 => ?_)
    clear hK K' hS0
    try simp only [Act.put, List.setIfInBounds_toArray, List.set_cons_zero, List.set_cons_succ, List.getElem_toArray, List.getElem_cons_zero, List.getElem_cons_succ]
    refine wpAnyH_ready (rs := [9]) (by kernel_rfl) (by simp) (AllReadyH.cons (o := _) rfl (fun K' hK => ?_) AllReadyH.nil)
    simp only [List.getElem_toArray, List.getElem_cons_zero, List.getElem_cons_succ]
    rw [if_pos (by rfl)]
    refine wp_append_run (.tmp 69) (.tmp 74) 22 22 s1 (.slice (some ⟨lb, lo + d, none⟩) (n - d) (lc - d)) (hr2 22) rfl rfl rfl ?_
    refine hK.out _ _ trivial (fun hS2 => ?_)
    clear hK K' hS1
    try simp only [Act.put, List.setIfInBounds_toArray, List.set_cons_zero, List.set_cons_succ, List.getElem_toArray, List.getElem_cons_zero, List.getElem_cons_succ]
    refine wpAnyH_take (i := 10) (oi := _) (v := .slice s2a D.length s2c) rfl (by kernel_rfl) (by kernel_rfl) (by kernel_rfl) (fun _ _ _ h => h) (Or.inl ⟨by rfl, fun w hSw => ?_⟩) hS2 ?_
    · go_simp
    try simp only [Act.put, List.setIfInBounds_toArray, List.set_cons_zero, List.set_cons_succ, List.getElem_toArray, List.getElem_cons_zero, List.getElem_cons_succ]
    refine wpAnyH_done (by kernel_rfl) ?_ _
    try dsimp only [Whole]
    clear hr1 hr2 ha hk2
    by_cases hD0 : D = []
    · have hv := HDN.out
      rw [if_pos hD0] at hv
      subst hD0
      have h10 := H9.out.alloc #[.string ⟨#[]⟩] 9
      have hk5 : RdL w (Asrt.obj w8.heap.size (.cells #[.string ⟨#[]⟩] 9 (0, 0)) :: row_str (.slice s2a ([] : Ls).length s2c) ([] : Ls).length (lstrs []) :: []) (.slice (some ⟨w8.heap.size, 0, none⟩) 1 1) [[]] := Reads.obj (k := 1) (n := 1) (c := 1) List.mem_cons_self (by decide) (by decide) (by simp)
      have hb := HB2.out
      rw [hv] at h10 hb
      have Cw := Lib.hid (whole_true (c := 1) (W := [[]]) hb HM.out rfl hk5 (by omega) (h10.ord [2]))
      clear hv h10 hk5 hb H9 HDN HD HB2
      go_wp2_with fail
      refine Cw.out.mono ?_
      rintro e w9 ⟨rfl, h11⟩
      have H11 := Lib.hid h11
      clear h11 Cw
      go_wp2_with fail
      go_ret
      exact ⟨rfl, H11.out.below⟩
    · have hv := HDN.out
      rw [if_neg hD0] at hv
      subst hv
      have hDl : 0 < V.length := List.length_pos_iff.2 hD0
      have hDz : ((V.length : Int) == 0) = false := beq_eq_false_iff_ne.2 (by omega)
      have hDz2 : ¬ V.length = 0 := by omega
      obtain ⟨dl, hdl⟩ : ∃ dl, dl = V.length := ⟨_, rfl⟩
      have Cw := Lib.hid (whole_true (c := V.length) (W := V) HB2.out HM.out rfl (Reads.row (e := 9) List.mem_cons_self) (by omega) H9.out.p1)
      rw [← hdl] at Cw hDl hDz hDz2 ⊢
      clear hD0 H9 HDN HD HB2 hdl
      go_wp2_with fail
      refine Cw.out.mono ?_
      rintro e w9 ⟨rfl, h11⟩
      have H11 := Lib.hid h11
      clear h11 Cw
      go_wp2_with fail
      go_ret
      exact ⟨rfl, H11.out.below⟩
end Go.Proofs.YtcdoomlagmddcaaGreatDoor
