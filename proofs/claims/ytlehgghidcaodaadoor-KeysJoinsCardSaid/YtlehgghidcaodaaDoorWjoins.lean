/- The law KeysJoins on values that read. -/
import Derived.Test.YtlehgghidcaodaaDoorWback
namespace Go.Proofs.YtlehgghidcaodaaDoor
open Go Go.RowKit Go.Fol
attribute [local go_sem ↓] Go.wp_at_zero Go.wp_at_succ
set_option linter.unusedVariables false
set_option linter.unusedSimpArgs false
set_option maxHeartbeats 4000000 in
set_option maxRecDepth 100000 in
theorem keysJoins_walk (w : World) (v0 v1 : Value) (a0 : Arg Tryd.prog w 22 v0) (a1 : Arg Tryd.prog w 22 v1) (hL : laidMetH Tryd.prog Rows.keysJoinsRow.laid w) (hS : w.ShapedOpen Tryd.prog) :
    Calls Tryd.prog 6 #[v0, v1] w fun e w' => e = .returned (.bool true) ∧ Below w.heap.size w w' := by
  obtain ⟨A, hA, hbA, hnc⟩ := arg_bytes a0
  obtain ⟨B, hB, hbB, hmc⟩ := arg_bytes a1
  obtain ⟨n, hn⟩ : ∃ n, n = A.length := ⟨_, rfl⟩
  obtain ⟨m, hm⟩ : ∃ m, m = B.length := ⟨_, rfl⟩
  rw [← hn] at hA hnc
  rw [← hm] at hB hmc
  obtain ⟨ka, kc, rfl⟩ := hA.form
  obtain ⟨la, lc, rfl⟩ := hB.form
  have hn63 := hA.n63
  have hm63 := hB.n63
  have HT : Hid (Pow10 w) := Lib.hid (pow10_of hL)
  have HA := Lib.hid (show Reads w [] 1 (.slice ka n kc) n (kints .u8 A) from Reads.old hA)
  have HB := Lib.hid (show Reads w [] 1 (.slice la m lc) m (kints .u8 B) from Reads.old hB)
  have Hn := Lib.hid hn
  have Hm := Lib.hid hm
  have HbA := Lib.hid hbA
  have HbB := Lib.hid hbB
  clear a0 a1 hL hS hA hB hbA hbB hn hm
  go_enter Tryd.func6, Tryd.ntmps6
  go_wp2_with fail
  refine (known_true HT.out (Owns.start w)).mono ?_
  rintro e w1 ⟨rfl, h1⟩
  have H1 := Lib.hid h1
  clear h1 HT
  by_cases hl : n + m ≤ 200
  rotate_left
  · have hw : IntKind.i64.wrap ((n : Int) + m) = (n : Int) + m := by rw [IntKind.wrap_i64]; omega
    have hg : decide ((200 : Int) < (n : Int) + m) = true := decide_eq_true (by omega)
    go_wp2_with fail
    go_ret
    exact ⟨rfl, H1.out.below⟩
  go_upto_region 5 with (fail)
  obtain ⟨x1, w2, hr1, h2⟩ := app0_byte H1.out HA.out (kints_one .u8 A) (by unfold maxLen; omega) (by omega)
  obtain ⟨x2, w3, hr2, h3⟩ := app_byte (vs := kints .u8 B) h2 HB.out (kints_one .u8 B) (by unfold maxLen; omega) (by omega)
  obtain ⟨ra, rc, rfl⟩ := row_slice h3.row
  obtain ⟨C, hC⟩ : ∃ C, C = A ++ B := ⟨_, rfl⟩
  have hCn : n + m = C.length := by rw [hC, List.length_append, Hn.out, Hm.out]
  rw [show kints .u8 A ++ kints .u8 B = kints .u8 C by rw [hC, kints_append]] at h3
  obtain ⟨q, hq⟩ : ∃ q, q = n + m := ⟨_, rfl⟩
  rw [← hq] at h3 hr2 hCn hl
  have hbC : bytesN C := by rw [hC]; exact bytesN_append HbA.out HbB.out
  have H3 := Lib.hid h3
  have HC := Lib.hid hC
  have HbC := Lib.hid hbC
  have HCn := Lib.hid hCn
  have Hq := Lib.hid hq
  clear h2 h3 hC hbC hCn hq H1
  go_wp2_with (at_builtin; first | refine Lib.wpList_append_run _ rfl _ _ _ _ rfl _ _ rfl rfl _ _ (hr1 _) ?_ | refine Lib.wpList_append_run _ rfl _ _ _ _ rfl _ _ rfl rfl _ _ (hr2 _) ?_)
  clear hr1 hr2
  go_loopw [6, 7] (fun sv q' wr => ∃ i : Nat, i ≤ q ∧ q' = .int .i64 i ∧ sv = .string (bs (textL (C.take i))) ∧ Owns w wr [row_byte (.slice ra q rc) q (kints .u8 C)]) (fun _ q' _ => q - (intOf q').toNat)
  case atStart => exact ⟨0, Nat.zero_le _, rfl, rfl, H3.out⟩
  case round =>
    obtain ⟨i, hi, rfl, rfl, hr⟩ := hrel
    have Hr := Lib.hid hr
    have htl := textL_len (C.take i)
    have htl2 : (C.take i).length ≤ i := List.length_take_le _ _
    by_cases hlt : i < q
    · obtain ⟨kb, ko, kc', e1, hkc, _, hce⟩ := (SrcV.of_row hr.row).cells (by omega) (by decide)
      cases e1
      have hx := kints_get .u8 C (i := i) (by have := HCn.out; omega)
      obtain ⟨c, hxe⟩ : ∃ x, x = C[i]?.getD 0 := ⟨_, rfl⟩
      rw [← hxe] at hx
      have cx := hce i _ hx
      have hKi : C[i]? = some c := by rw [hxe, List.getElem?_eq_getElem (by have := HCn.out; omega)]; rfl
      obtain ⟨hc0, hc1⟩ := HbC.out c (List.mem_of_getElem? hKi)
      have hnl := (nameL_len c).2
      have htk := textL_take hKi
      have hcat : ∀ w, (Op.stringOp .add (bs (textL (C.take i))) (bs (nameL c))).run Tryd.prog w = .ok (.string (bs (textL (C.take (i + 1))))) w := fun w => by
        rw [htk]; exact run_bs_cat (by omega) w
      obtain ⟨T, hT⟩ : ∃ T, T = textL (C.take i) := ⟨_, rfl⟩
      obtain ⟨T', hT'⟩ : ∃ T', T' = textL (C.take (i + 1)) := ⟨_, rfl⟩
      rw [← hT, ← hT'] at hcat
      rw [← hT]
      have HT' := Lib.hid hT'
      clear hx hce hxe hKi hr htk hT hT' htl
      go_wp2_with fail
      refine (kname hc0 hc1 Hr.out).mono ?_
      rintro e w1 ⟨rfl, h1⟩
      rw [nameB_bs]
      have H1 := Lib.hid h1
      clear h1 Hr
      go_wp2_with fail
      go_roundw
      case rel => exact ⟨i + 1, by omega, by go_num, by rw [HT'.out], H1.out⟩
      case measure => simp [intOf]; omega
    · obtain rfl : i = q := by omega
      have hK : C.take i = C := List.take_of_length_le (by have := HCn.out; omega)
      rw [hK]
      have hwA := wtext HbA.out (by have := Hn.out; omega) Hr.out (by rw [← Hn.out]; exact HA.out.cons)
      have HwA := Lib.hid hwA
      have hla := textL_len A
      have hlb := textL_len B
      have hcatAB : ∀ w, (Op.stringOp .add (bs (textL A)) (bs (textL B))).run Tryd.prog w = .ok (.string (bs (textL C))) w := fun w => by
        rw [HC.out, textL_append]; exact run_bs_cat (by have := Hn.out; have := Hm.out; omega) w
      have HcatAB := Lib.hid hcatAB
      have hlc : (textL C).length ≤ 1000 := by rw [HC.out, textL_append, List.length_append]; have := Hn.out; have := Hm.out; omega
      obtain ⟨TA, hTA⟩ : ∃ T, T = textL A := ⟨_, rfl⟩
      obtain ⟨TB, hTB⟩ : ∃ T, T = textL B := ⟨_, rfl⟩
      obtain ⟨TC, hTC⟩ : ∃ T, T = textL C := ⟨_, rfl⟩
      have HTA := Lib.hid hTA
      have HTB := Lib.hid hTB
      have HTC := Lib.hid hTC
      rw [← hTC] at hlc ⊢
      rw [← hTA, ← hTB, ← hTC] at hcatAB
      clear hK hr hwA hla hlb hTA hTB hTC htl htl2 HcatAB hlt
      go_wp2_with fail
      refine HwA.out.mono ?_
      rintro e w4 ⟨rfl, h4⟩
      rw [← HTA.out]
      have H4 := Lib.hid h4
      clear h4 HwA Hr
      go_wp2_with fail
      refine (wtext HbB.out (by have := Hm.out; omega) H4.out (by rw [← Hm.out]; exact HB.out.cons)).mono ?_
      rintro e w5 ⟨rfl, h5⟩
      rw [← HTB.out]
      have H5 := Lib.hid h5
      clear h5 H4
      go_wp2_with fail
      refine (kparse (s := TC) (by omega) H5.out).mono ?_
      rintro e w6 (⟨hc, _⟩ | ⟨K', v', hK', rfl, h6⟩)
      · rw [HTC.out, parse_text C HbC.out] at hc; cases hc
      rw [HTC.out, parse_text C HbC.out] at hK'
      obtain rfl := Option.some.inj hK'
      obtain ⟨a6, c6, rfl⟩ := row_slice h6.row
      have HRC : Hid (Reads w [row_byte (.slice a6 C.length c6) C.length (kints .u8 C), row_byte (.slice ra i rc) i (kints .u8 C)] 1 (.slice ra i rc) C.length (kints .u8 C)) := Lib.hid (by
        rw [← HCn.out]
        exact Reads.row (List.mem_cons_of_mem _ List.mem_cons_self))
      have H6 := Lib.hid h6
      clear h6 hK' H5
      go_wp2_with fail
      refine (ktext HbC.out (by have := HCn.out; omega) H6.out HRC.out).mono ?_
      rintro e w7 ⟨rfl, h7⟩
      rw [← HTC.out]
      have H7 := Lib.hid h7
      clear h7 H6
      go_wp2_with fail
      refine (ktext HbA.out (by have := Hn.out; omega) H7.out (by rw [← Hn.out]; exact HA.out.cons.cons)).mono ?_
      rintro e w8 ⟨rfl, h8⟩
      rw [← HTA.out]
      have H8 := Lib.hid h8
      clear h8 H7
      go_wp2_with fail
      refine (ktext HbB.out (by have := Hm.out; omega) H8.out (by rw [← Hm.out]; exact HB.out.cons.cons)).mono ?_
      rintro e w9 ⟨rfl, h9⟩
      rw [← HTB.out]
      have H9 := Lib.hid h9
      clear h9 H8
      go_wp2_with fail
      refine (ktext HbC.out (by have := HCn.out; omega) H9.out HRC.out).mono ?_
      rintro e w10 ⟨rfl, h10⟩
      rw [← HTC.out]
      have cv1 : (convert 22 9 (.slice a6 C.length c6)).run Tryd.prog w10 = .ok (.string (bs (nb C))) w10 :=
        run_bytes_str Tryd.underlying22 Tryd.underlying5 Tryd.underlying9 (by rw [bn_nb HbC.out]; exact SrcV.of_row h10.row)
      have cv2 : (convert 22 9 (.slice ra i rc)).run Tryd.prog w10 = .ok (.string (bs (nb C))) w10 :=
        run_bytes_str Tryd.underlying22 Tryd.underlying5 Tryd.underlying9 (by rw [bn_nb HbC.out]; exact SrcV.of_row h10.p1.row)
      have H10 := Lib.hid h10
      clear h10 H9 HRC
      go_wp2_with fail
      go_ret
      exact ⟨rfl, H10.out.below⟩
end Go.Proofs.YtlehgghidcaodaaDoor
