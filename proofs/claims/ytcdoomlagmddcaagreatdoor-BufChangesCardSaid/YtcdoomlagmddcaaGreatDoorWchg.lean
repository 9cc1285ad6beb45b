/- The law BufChanges on values that read. -/
import Derived.Test.YtcdoomlagmddcaaGreatDoorBU
namespace Go.Proofs.YtcdoomlagmddcaaGreatDoor
open Go Go.RowKit Go.Fol
attribute [local go_sem ↓] Go.wp_at_zero Go.wp_at_succ
set_option linter.unusedVariables false
set_option linter.unusedSimpArgs false
set_option maxRecDepth 100000
/-- The change undone. -/
theorem repL_back {L N : Ls} {a k : Nat} (h : a + k ≤ L.length) : repL (repL L a k N) a N.length ((L.drop a).take k) = L := by
  have h1 : (repL L a k N).take a = L.take a := by
    rw [repL, List.append_assoc, List.take_append_of_le_length (by rw [List.length_take]; omega), List.take_take, Nat.min_self]
  have h2 : (repL L a k N).drop (a + N.length) = L.drop (a + k) := by
    rw [repL]
    have e : a + N.length = (L.take a ++ N).length := by rw [List.length_append, List.length_take]; omega
    rw [e, List.drop_left]
  rw [repL, h1, h2, ← List.drop_drop, List.append_assoc, List.take_append_drop, List.take_append_drop]
theorem repL_len {L N : Ls} {a k : Nat} (h : a + k ≤ L.length) : (repL L a k N).length = L.length - k + N.length := by
  rw [repL, List.length_append, List.length_append, List.length_take, List.length_drop]; omega
set_option maxHeartbeats 8000000 in
theorem bufChanges_walk (w : World) (v0 v1 v2 v3 : Value) (a0 : Arg Tryz.prog w 22 v0) (a1 : Arg Tryz.prog w 5 v1) (a2 : Arg Tryz.prog w 5 v2) (a3 : Arg Tryz.prog w 22 v3) (hL : laidMetH Tryz.prog Rows.bufChangesRow.laid w) (hS : w.ShapedOpen Tryz.prog) :
    Calls Tryz.prog 5 #[v0, v1, v2, v3] w fun e w' => e = .returned (.bool true) ∧ Below w.heap.size w w' := by
  obtain ⟨L, la, lc, rfl, hs, hlc, hn16, hx⟩ := arg_lines a0
  obtain ⟨at_, rfl, wat⟩ := arg_int Tryz.underlying5 a1
  obtain ⟨nn, rfl, wnn⟩ := arg_int Tryz.underlying5 a2
  obtain ⟨N, na, nc, rfl, hsN, hncN, hm16, hxN⟩ := arg_lines a3
  obtain ⟨hat0, hat1⟩ := wf_u8 wat
  obtain ⟨hnn0, hnn1⟩ := wf_u8 wnn
  obtain ⟨n, hn⟩ : ∃ n, n = L.length := ⟨_, rfl⟩
  obtain ⟨m, hm⟩ : ∃ m, m = N.length := ⟨_, rfl⟩
  have HM : Hid (MaxInt w) := Lib.hid (maxInt_of hS)
  have hs63 := hs.n63
  have hsN63 := hsN.n63
  rw [← hn] at hs hlc hs63 ⊢
  rw [← hm] at hsN hncN hsN63 ⊢
  have Hs := Lib.hid (show ∀ R, RdL w R (.slice la n lc) L by intro R; unfold RdL; rw [← hn]; exact Reads.old hs)
  have HsN := Lib.hid (show ∀ R, RdL w R (.slice na m nc) N by intro R; unfold RdL; rw [← hm]; exact Reads.old hsN)
  have Hn := Lib.hid hn
  have Hm := Lib.hid hm
  have Hx := Lib.hid hx
  have HxN := Lib.hid hxN
  clear a0 a1 a2 a3 wat wnn hL hS hs hx hn hn16 hsN hxN hm hm16
  go_enter Tryz.func5, Tryz.ntmps5
  go_wp2_with fail
  refine (known_true HM.out (Owns.start w)).mono ?_
  rintro e w1 ⟨rfl, h1⟩
  have Ct := Lib.hid (htext Hn.out Hx.out h1 (Hs.out _))
  have Cl := Lib.hid (hlight Hm.out HxN.out h1 (HsN.out _))
  have H1 := Lib.hid h1
  clear h1
  go_wp2_with fail
  refine Ct.out.mono ?_
  rintro e w' ⟨⟨tb, rfl, htb⟩, rfl⟩
  clear Ct
  cases tb with
  | false =>
    go_wp2_with fail
    go_ret
    exact ⟨rfl, H1.out.below⟩
  | true =>
  obtain ⟨hLP, hne⟩ := htb rfl
  have HLP := Lib.hid hLP
  have Hne := Lib.hid hne
  clear htb hLP hne
  go_wp2_with fail
  refine Cl.out.mono ?_
  rintro e w' ⟨⟨tb, rfl, hlb⟩, rfl⟩
  clear Cl
  cases tb with
  | false =>
    go_wp2_with fail
    go_ret
    exact ⟨rfl, H1.out.below⟩
  | true =>
  have hNP := hlb rfl
  have hB := HLP.out.buf Hne.out
  have hn0 : 0 < n := by rw [Hn.out]; exact List.length_pos_iff.2 Hne.out
  have hn40 : n ≤ 40 := by rw [Hn.out]; exact HLP.out.len
  have hm40 : m ≤ 40 := by rw [Hm.out]; exact hNP.len
  have HB := Lib.hid hB
  have HNP := Lib.hid hNP
  clear hB hlb hNP
  obtain ⟨r1, hr1⟩ : ∃ r : Nat, r = n + 1 := ⟨_, rfl⟩
  have hd0 : IntKind.i64.wrap ((n : Int) + 1) = (r1 : Int) := by rw [IntKind.wrap_i64]; omega
  obtain ⟨a, ha⟩ : ∃ a : Nat, at_ % (r1 : Int) = (a : Int) := ⟨(at_ % (r1 : Int)).toNat, by have := Int.emod_nonneg at_ (show (r1 : Int) ≠ 0 by omega); omega⟩
  have han : a ≤ n := by have := Int.emod_lt_of_pos at_ (show (0 : Int) < r1 by omega); omega
  have ha2 : at_ % ((n : Int) + 1) = (a : Int) := by rw [show (n : Int) + 1 = r1 by omega]; exact ha
  obtain ⟨r, hr⟩ : ∃ r : Nat, r = n - a + 1 := ⟨_, rfl⟩
  have hd1 : wrap64 (wrap64 ((n : Int) - a) + 1) = (r : Int) := by unfold wrap64; omega
  obtain ⟨k, hk⟩ : ∃ k : Nat, nn % (r : Int) = (k : Int) := ⟨(nn % (r : Int)).toNat, by have := Int.emod_nonneg nn (show (r : Int) ≠ 0 by omega); omega⟩
  have hkr : k < r := by have := Int.emod_lt_of_pos nn (show (0 : Int) < r by omega); omega
  have hak : a + k ≤ n := by omega
  have hk2 : nn % ((n : Int) - a + 1) = (k : Int) := by rw [show (n : Int) - a + 1 = r by omega]; exact hk
  obtain ⟨d, hd⟩ : ∃ d, d = a + k := ⟨_, rfl⟩
  have hwd : IntKind.i64.wrap ((a : Int) + k) = (d : Int) := by rw [IntKind.wrap_i64]; omega
  have hdn : d ≤ n := by omega
  have had : a ≤ d := by omega
  have hda : d - a = k := by omega
  have hdl : d ≤ lc := by omega
  have hal : a ≤ lc := by omega
  obtain ⟨lb, lo, lc', e1, _, _, _⟩ := (Hs.out [] w (Owns.start w)).cells (by rw [← Hn.out]; exact hn0) (by decide)
  rw [← Hn.out] at e1
  cases e1
  have Hr1 := Lib.hid hr1
  have Hr := Lib.hid hr
  have Hd := Lib.hid hd
  have hr10 : 0 < r1 := by omega
  have hr0 : 0 < r := by omega
  clear hr1 hr hd hkr
  obtain ⟨la2, hla2⟩ : ∃ la2 : Option Addr, (if lc = a then some ⟨lb, lo, none⟩ else some ⟨lb, lo + a, none⟩) = la2 := ⟨_, rfl⟩
  have ho : ∀ R, RdL w R (.slice la2 k (lc - a)) ((L.drop a).take k) := by
    intro R
    have h2 := rdl_post (R := R) Hn.out (Hs.out R) han (la2 := la2) (by rw [← hla2]; split <;> simp [Addr.add_lit])
    have h3 := rdl_pre (n := n - a) (by rw [List.length_drop, Hn.out]) h2 (a := k) (by omega)
    exact h3
  have Ho := Lib.hid ho
  clear ho
  have h2 := H1.out.alloc #[.int .i64 a, .slice la2 k (lc - a), .slice na m nc] 42
  obtain ⟨C, hC⟩ : ∃ C, C = w'.heap.size := ⟨_, rfl⟩
  obtain ⟨W2, hW2⟩ : ∃ W2, W2 = w'.alloc (.cells #[.int .i64 a, .slice la2 k (lc - a), .slice na m nc] 42) := ⟨_, rfl⟩
  rw [← hC, ← hW2] at h2
  have Cn := Lib.hid (tnew Hn.out HB.out h2 (Hs.out _))
  have HW2 := Lib.hid hW2
  have HC := Lib.hid hC
  clear hW2 hC h2
  go_upto_region 8 with (fail)
  rw [ha, hk2, ← HW2.out, ← HC.out]
  clear ha hk2 ha2 hd0 hd1 hr10 hr0 HW2 HC
  go_wp2_with fail
  refine Cn.out.mono ?_
  rintro e w2 ⟨p, rfl, h3⟩
  dsimp only at h3
  have c0 : w2.cell? ⟨C, 0, none⟩ = some (.int .i64 a) := h3.p1.cell (j := 0) rfl
  have c1 : w2.cell? ⟨C, 1, none⟩ = some (.slice la2 k (lc - a)) := h3.p1.cell (j := 1) rfl
  have c2 : w2.cell? ⟨C, 2, none⟩ = some (.slice na m nc) := h3.p1.cell (j := 2) rfl
  have h4 := h3.alloc #[.int .i64 a, .slice la2 k (lc - a), .slice na m nc] 42
  obtain ⟨B, hB⟩ : ∃ B, B = w2.heap.size := ⟨_, rfl⟩
  obtain ⟨W3, hW3⟩ : ∃ W3, W3 = w2.alloc (.cells #[.int .i64 a, .slice la2 k (lc - a), .slice na m nc] 42) := ⟨_, rfl⟩
  rw [← hB, ← hW3] at h4
  have HW3 := Lib.hid hW3
  have HBB := Lib.hid hB
  have H4 := Lib.hid h4
  clear hW3 hB h4 h3 Cn
  by_cases hz : n - k + m = 0
  · have Ca := Lib.hid (rapply_no Hn.out Hm.out hak hz (by omega) (by omega) H4.out List.mem_cons_self (Hs.out _) (Ho.out _) (HsN.out _))
    go_wp2_with fail
    rw [← HW3.out, ← HBB.out]
    refine Ca.out.mono ?_
    rintro e w3 ⟨rfl, h5⟩
    have H5 := Lib.hid h5
    clear h5 Ca
    go_wp2_with fail
    go_ret
    exact ⟨rfl, H5.out.below⟩
  have Ca := Lib.hid (rapply Hn.out Hm.out hak (by omega) (by omega) (by omega) H4.out List.mem_cons_self (Hs.out _) (Ho.out _) (HsN.out _))
  go_wp2_with fail
  rw [← HW3.out, ← HBB.out]
  refine Ca.out.mono ?_
  rintro e w3 ⟨v, rfl, h5⟩
  dsimp only at h5
  obtain ⟨T, hT⟩ : ∃ T, T = repL L a k N := ⟨_, rfl⟩
  rw [← hT] at h5
  obtain ⟨tl, htl⟩ : ∃ tl, tl = T.length := ⟨_, rfl⟩
  have htl2 : tl = n - k + m := by rw [htl, hT, repL_len (by rw [← Hn.out]; exact hak), ← Hn.out, ← Hm.out]
  rw [← htl] at h5
  obtain ⟨va, vc, rfl⟩ := row_slice h5.row
  have hTb : bulkL T ≤ 2480 := by
    have h1 := repL_bulk (W := L) (a := a) (n := k) (L := N) (by rw [← Hn.out]; exact hak)
    have h2 := HLP.out.bulk
    have h6 := HNP.out.bulk
    rw [← hT] at h1
    omega
  have hTne : T ≠ [] := fun e => by rw [e] at htl; simp at htl; omega
  have hBT : BufI T := by rw [hT]; exact HB.out.rep HNP.out.lf (by rw [← hT]; exact hTne) (by rw [← hT]; omega)
  have hNe : newLs L N k = N := by
    rw [newLs, if_neg]
    rintro ⟨h1, h2⟩
    have h6 := Hm.out
    rw [h2] at h6
    have h7 := Hn.out
    simp at h6
    omega
  have c4 := breplace (ed := 0) (ad := 0) (a := a) (m := k) (n := m) (L := N) HB.out HM.out (by rw [← Hn.out]; exact hak) Hm.out (HsN.out _) HNP.out.lf (by have := HNP.out.bulk; omega) (by have := HNP.out.bulk; omega) (by decide) (h5.ord [2])
  rw [hNe] at c4
  have C4 := Lib.hid c4
  have HT := Lib.hid hT
  have Htl := Lib.hid htl
  have HTb := Lib.hid hTb
  have HBT := Lib.hid hBT
  have Htl2 := Lib.hid htl2
  clear h5 c4 hNe htl2 hT htl hTb hTne hBT Ca c0 c1 c2 HW3 HBB
  go_wp2_with fail
  refine C4.out.mono ?_
  rintro e w4 hrp
  obtain ⟨rfl, ed4, hed4, h6⟩ := rep_ok hrp (by rw [← HT.out]; have := HTb.out; omega)
  rw [← HT.out] at h6
  have h6 := h6.ord [0, 0]
  have C5 := Lib.hid (whole_true (ed := ed4) HBT.out HM.out Htl.out (by have h7 := Htl.out; subst h7; exact Reads.row (e := 9) List.mem_cons_self) (by omega) h6)
  clear h6 hrp C4
  go_wp2_with fail
  refine C5.out.mono ?_
  rintro e w5 ⟨rfl, h7⟩
  have htl2 := Htl2.out
  obtain ⟨O, hO⟩ : ∃ O, O = (L.drop a).take k := ⟨_, rfl⟩
  have hOl : k = O.length := by rw [hO, List.length_take, List.length_drop, ← Hn.out]; omega
  have hOb : bulkL O ≤ 1240 := by
    have h1 := bulkL_take_le (L.drop a) k
    have h2 := bulkL_append (L.take a) (L.drop a)
    rw [List.take_append_drop] at h2
    have h3 := HLP.out.bulk
    rw [← hO] at h1
    omega
  have hOf : brokenB O = false := (noLF_iff O).1 (fun x hx => (noLF_iff L).2 HLP.out.lf x (by rw [hO] at hx; exact List.mem_of_mem_drop (List.mem_of_mem_take hx)))
  have hNo : newLs T O m = O := by
    rw [newLs, if_neg]
    rintro ⟨h1, h2⟩
    rw [← Htl.out] at h1
    rw [h2] at hOl
    simp at hOl
    omega
  have hbk : repL T a m O = L := by rw [HT.out, hO, Hm.out]; exact repL_back (by rw [← Hn.out]; exact hak)
  obtain ⟨ad4, had4⟩ : ∃ ad4, ad4 = 0 + bulkL N := ⟨_, rfl⟩
  rw [← had4] at h7
  have c6 := breplace (ed := ed4) (ad := ad4) (a := a) (m := m) (n := k) (L := O) HBT.out HM.out (by rw [← Htl.out]; omega) hOl (by rw [hO]; exact Ho.out _) hOf (by omega) (by have := HNP.out.bulk; omega) (by omega) h7
  rw [hNo] at c6
  have C6 := Lib.hid c6
  have Hbk := Lib.hid hbk
  clear htl2 h7 C5 c6 hNo hOl hOb hOf hbk had4 hO
  go_wp2_with fail
  refine C6.out.mono ?_
  rintro e w6 hrp
  obtain ⟨rfl, ed6, hed6, h8⟩ := rep_ok hrp (by rw [Hbk.out]; exact HB.out.bulk)
  rw [Hbk.out] at h8
  have C7 := Lib.hid (whole_true (ed := ed6) HB.out HM.out Hn.out (Hs.out _) (by omega) h8)
  clear h8 hrp C6
  go_wp2_with fail
  refine C7.out.mono ?_
  rintro e w7 ⟨rfl, h9⟩
  have H9 := Lib.hid h9
  clear h9 C7
  go_wp2_with fail
  go_ret
  exact ⟨rfl, H9.out.below⟩
end Go.Proofs.YtcdoomlagmddcaaGreatDoor
