/- The law BufNew on values that read. -/
import Derived.Test.YtcdoomlagmddcaaGreatDoorBN
namespace Go.Proofs.YtcdoomlagmddcaaGreatDoor
open Go Go.RowKit Go.Fol
attribute [local go_sem ↓] Go.wp_at_zero Go.wp_at_succ
attribute [-go_sem] run_index_string run_slice_string_if run_slice_string run_slice_string_from_if run_slice_string_to_if run_slice_string_h run_slice_string_l
set_option linter.unusedVariables false
set_option linter.unusedSimpArgs false
set_option maxRecDepth 100000
set_option maxHeartbeats 4000000 in
theorem bufNew_walk (w : World) (v0 v1 v2 : Value) (a0 : Arg Tryz.prog w 22 v0) (a1 : Arg Tryz.prog w 9 v1) (a2 : Arg Tryz.prog w 36 v2) (hL : laidMetH Tryz.prog Rows.bufNewRow.laid w) (hS : w.ShapedOpen Tryz.prog) :
    Calls Tryz.prog 4 #[v0, v1, v2] w fun e w' => e = .returned (.bool true) ∧ Below w.heap.size w w' := by
  obtain ⟨L, la, lc, rfl, hs, hlc, hn16, hx⟩ := arg_lines a0
  obtain ⟨sb, rfl, hsb⟩ := arg_string Tryz.underlying9 a1
  obtain ⟨nn, rfl, wnn⟩ := arg_int Tryz.underlying36 a2
  have hnn0 : 0 ≤ nn ∧ nn ≤ 65535 := by simpa [Lit.wf, IntKind.min, IntKind.max, IntKind.signed, IntKind.bits] using wnn
  obtain ⟨tx, htx⟩ : ∃ tx, tx = sb.data.toList := ⟨_, rfl⟩
  obtain rfl : sb = bs tx := by rw [htx]; exact bs_of sb
  obtain ⟨tl, htl⟩ : ∃ tl, tl = tx.length := ⟨_, rfl⟩
  have hsz : (bs tx).size = tl := by rw [bs_size, htl]
  rw [hsz] at hsb
  obtain ⟨n, hn⟩ : ∃ n, n = L.length := ⟨_, rfl⟩
  have HM : Hid (MaxInt w) := Lib.hid (maxInt_of hS)
  have hs63 := hs.n63
  rw [← hn] at hs hlc hs63 ⊢
  have Hs := Lib.hid (show ∀ R, RdL w R (.slice la n lc) L by intro R; unfold RdL; rw [← hn]; exact Reads.old hs)
  have Hn := Lib.hid hn
  have Hx := Lib.hid hx
  have Htl := Lib.hid htl
  clear a0 a1 a2 wnn hL hS hs hx hn hn16 htx htl
  go_enter Tryz.func4, Tryz.ntmps4
  go_wp2_with fail
  refine (known_true HM.out (Owns.start w)).mono ?_
  rintro e w1 ⟨rfl, h1⟩
  have H1 := Lib.hid h1
  clear h1
  by_cases hn40 : n ≤ 40
  rotate_left
  · go_wp2_with fail
    go_ret
    exact ⟨rfl, H1.out.below⟩
  have hbb : bulkL L ≤ 4611686018427387904 := by
    have h1 := bulk_bound Hx.out
    have h2 : L.length * (140737488355328 + 1) ≤ 40 * (140737488355328 + 1) := Nat.mul_le_mul_right _ (by rw [← Hn.out]; exact hn40)
    omega
  have q := rsize Hn.out H1.out (Hs.out _) hbb
  obtain ⟨bk, hbk⟩ : ∃ bk, bk = bulkL L := ⟨_, rfl⟩
  rw [← hbk] at q hbb
  have Q := Lib.hid q
  have Hbk := Lib.hid hbk
  clear q hbk
  go_wp2_with fail
  refine Q.out.mono ?_
  rintro e w' ⟨rfl, rfl⟩
  by_cases hb6 : bk ≤ 6000
  rotate_left
  · go_wp2_with fail
    go_ret
    exact ⟨rfl, H1.out.below⟩
  by_cases ht3 : tl ≤ 300
  rotate_left
  · go_wp2_with fail
    go_ret
    exact ⟨rfl, H1.out.below⟩
  obtain ⟨r, hr⟩ : ∃ r : Nat, nn % 5 = (r : Int) := ⟨(nn % 5).toNat, by omega⟩
  have hr5 : r < 5 := by omega
  obtain ⟨k, hk⟩ : ∃ k : Nat, k = 4093 + r := ⟨_, rfl⟩
  have hk1 : 4093 ≤ k := by omega
  have hk2 : k ≤ 4097 := by omega
  have hwk0 : IntKind.i64.wrap (4093 + (r : Int)) = (k : Int) := by rw [IntKind.wrap_i64]; omega
  have hwk1 : IntKind.i64.wrap ((k : Int) + 1) = (k : Int) + 1 := by rw [IntKind.wrap_i64]; omega
  have Hr := Lib.hid hr
  have Hk := Lib.hid hk
  clear hk hr5
  cases hbr : brokenB L with
  | true =>
    have Cn := Lib.hid (tnew_place Hn.out hbr H1.out (Hs.out _))
    have Hbr := Lib.hid hbr
    clear hbr hr
    go_wp2_with fail
    refine Cn.out.mono ?_
    rintro e w2 ⟨rfl, h2⟩
    have cb := lbroken Hn.out Hx.out h2 (Hs.out _)
    rw [Hbr.out] at cb
    have Cb := Lib.hid cb
    have H5 := Lib.hid h2
    clear h2 cb Cn H1 Q
    go_wp2_with fail
    refine Cb.out.mono ?_
    rintro e w5 ⟨rfl, rfl⟩
    clear Cb
    have hmk := run_make0 k (by omega)
    have hcv := conv0 k (by omega) w5
    have h3 := ((H5.out.alloc0 (.cells (madeCells #[Value.int .u8 0] k) 5)).alloc #[.string (bs (zeros k))] 9)
    obtain ⟨W6, hW6⟩ : ∃ W6, W6 = ((w5.alloc (.cells (madeCells #[Value.int .u8 0] k) 5)).alloc (.cells #[.string (bs (zeros k))] 9)) := ⟨_, rfl⟩
    rw [World.size_alloc, ← hW6] at h3
    obtain ⟨B, hB5⟩ : ∃ B, B = w5.heap.size + 1 := ⟨_, rfl⟩
    rw [← hB5] at h3
    have C6 := Lib.hid (newk (k := k) (by omega) h3 (Reads.obj (k := 1) (n := 1) (c := 1) List.mem_cons_self (by decide) (by decide) (by simp)))
    have HW6 := Lib.hid hW6
    have HB5 := Lib.hid hB5
    clear h3 hW6 hB5 H5
    have hr := Hr.out
    go_wp2_with fail
    rw [← HW6.out, ← HB5.out]
    refine C6.out.mono ?_
    rintro e w6 ⟨o, ev, rfl, hc, h6⟩
    have h6 := h6.drop
    clear hmk hcv C6 HW6 HB5 hr
    rcases hc with ⟨hkc, rfl, p6, rfl⟩ | ⟨hkc, rfl, rfl⟩
    · have H6 := Lib.hid h6
      clear h6
      by_cases hx0 : tx = []
      · have hsx : splitF tx = linesL tx := by rw [hx0]; exact split_chop []
        have hem : (bs tx).toList = [] := by rw [bs_toList, hx0]
        have hem2 : (bs tx).toList.isEmpty = true := by rw [hem]; rfl
        clear hx0
        have C7 := Lib.hid (tsplit (l := tx) (by rw [← Htl.out]; omega) HM.out H6.out)
        have Htx := Lib.hid hsx
        clear hsx
        go_wp2_with fail
        refine C7.out.mono ?_
        rintro e w7 ⟨b7, rfl, h7⟩
        have C8 := Lib.hid (lawsplit (l := tx) (by rw [← Htl.out]; omega) h7)
        clear h7 C7
        go_wp2_with fail
        refine C8.out.mono ?_
        rintro e w8 ⟨⟨x8, y8⟩, rfl, h8⟩
        have C9 := Lib.hid (hstrings (va := .slice (some ⟨b7, 0, none⟩) (splitN tx) (linesL tx).length) (vb := .slice x8 (linesL tx).length y8) (A := linesL (tx)) h8 (split_rd2 Htx.out (List.mem_cons_of_mem _ List.mem_cons_self)) (Reads.row (e := 9) List.mem_cons_self))
        clear h8 C8
        go_wp2_with fail
        refine C9.out.mono ?_
        rintro e w9 ⟨rfl, h9⟩
        have H9 := Lib.hid h9
        clear h9 C9
        go_wp2_with fail
        go_ret
        exact ⟨rfl, H9.out.below⟩
      · obtain ⟨m, hm⟩ : ∃ m, tl = m + 1 := ⟨tl - 1, by have h1 := List.length_pos_iff.2 hx0; rw [← Htl.out] at h1; omega⟩
        have hwm : IntKind.i64.wrap ((tl : Int) - 1) = (m : Int) := by rw [IntKind.wrap_i64]; omega
        obtain ⟨b, hb⟩ : ∃ b, tx[m]? = some b := ⟨_, List.getElem?_eq_getElem (by rw [← Htl.out]; omega)⟩
        have hat := fun w => run_at hb w
        obtain ⟨hem, hem2⟩ := bs_ne hx0
        have hlm : tx.length = m + 1 := by rw [← Htl.out]; exact hm
        have hmt : m < tl := by omega
        clear hx0 hm
        by_cases hb10 : b = 10
        · subst hb10
          have hb0 : ((10 : UInt8).toNat : Int) = 10 := by decide
          rw [hb0] at hat
          have hcu := fun w => run_cut0 tx (i := m) (by rw [← Htl.out]; omega) w
          have hsx : splitF tx = linesL (tx.take m) := by rw [split_chop, chop_lf hlm hb]
          obtain ⟨cx, hcx⟩ : ∃ cx, cx = tx.take m := ⟨_, rfl⟩
          rw [← hcx] at hcu hsx
          have hcl : cx.length ≤ 10000 := by rw [hcx, List.length_take, ← Htl.out]; omega
          clear hb hcx hlm
          have C7 := Lib.hid (tsplit (l := tx) (by rw [← Htl.out]; omega) HM.out H6.out)
          have Htx := Lib.hid hsx
          clear hsx
          go_wp2_with fail
          refine C7.out.mono ?_
          rintro e w7 ⟨b7, rfl, h7⟩
          have C8 := Lib.hid (lawsplit (l := cx) (by exact hcl) h7)
          clear h7 C7
          go_wp2_with fail
          refine C8.out.mono ?_
          rintro e w8 ⟨⟨x8, y8⟩, rfl, h8⟩
          have C9 := Lib.hid (hstrings (va := .slice (some ⟨b7, 0, none⟩) (splitN tx) (linesL tx).length) (vb := .slice x8 (linesL cx).length y8) (A := linesL (cx)) h8 (split_rd2 Htx.out (List.mem_cons_of_mem _ List.mem_cons_self)) (Reads.row (e := 9) List.mem_cons_self))
          clear h8 C8
          go_wp2_with fail
          refine C9.out.mono ?_
          rintro e w9 ⟨rfl, h9⟩
          have H9 := Lib.hid h9
          clear h9 C9
          go_wp2_with fail
          go_ret
          exact ⟨rfl, H9.out.below⟩
        · have hbz : ((b.toNat : Int) == 10) = false := beq_eq_false_iff_ne.2 (fun h => hb10 (by apply UInt8.toNat_inj.1; show b.toNat = 10; omega))
          have hsx : splitF tx = linesL tx := by rw [split_chop, chop_no hlm hb hb10]
          obtain ⟨bv, hbv⟩ : ∃ bv, (b.toNat : Int) = bv := ⟨_, rfl⟩
          rw [hbv] at hat hbz
          clear hb hb10 hbv hlm
          have C7 := Lib.hid (tsplit (l := tx) (by rw [← Htl.out]; omega) HM.out H6.out)
          have Htx := Lib.hid hsx
          clear hsx
          go_wp2_with fail
          refine C7.out.mono ?_
          rintro e w7 ⟨b7, rfl, h7⟩
          have C8 := Lib.hid (lawsplit (l := tx) (by rw [← Htl.out]; omega) h7)
          clear h7 C7
          go_wp2_with fail
          refine C8.out.mono ?_
          rintro e w8 ⟨⟨x8, y8⟩, rfl, h8⟩
          have C9 := Lib.hid (hstrings (va := .slice (some ⟨b7, 0, none⟩) (splitN tx) (linesL tx).length) (vb := .slice x8 (linesL tx).length y8) (A := linesL (tx)) h8 (split_rd2 Htx.out (List.mem_cons_of_mem _ List.mem_cons_self)) (Reads.row (e := 9) List.mem_cons_self))
          clear h8 C8
          go_wp2_with fail
          refine C9.out.mono ?_
          rintro e w9 ⟨rfl, h9⟩
          have H9 := Lib.hid h9
          clear h9 C9
          go_wp2_with fail
          go_ret
          exact ⟨rfl, H9.out.below⟩
    · have H6 := Lib.hid h6
      clear h6
      by_cases hx0 : tx = []
      · have hsx : splitF tx = linesL tx := by rw [hx0]; exact split_chop []
        have hem : (bs tx).toList = [] := by rw [bs_toList, hx0]
        have hem2 : (bs tx).toList.isEmpty = true := by rw [hem]; rfl
        clear hx0
        have C7 := Lib.hid (tsplit (l := tx) (by rw [← Htl.out]; omega) HM.out H6.out)
        have Htx := Lib.hid hsx
        clear hsx
        go_wp2_with fail
        refine C7.out.mono ?_
        rintro e w7 ⟨b7, rfl, h7⟩
        have C8 := Lib.hid (lawsplit (l := tx) (by rw [← Htl.out]; omega) h7)
        clear h7 C7
        go_wp2_with fail
        refine C8.out.mono ?_
        rintro e w8 ⟨⟨x8, y8⟩, rfl, h8⟩
        have C9 := Lib.hid (hstrings (va := .slice (some ⟨b7, 0, none⟩) (splitN tx) (linesL tx).length) (vb := .slice x8 (linesL tx).length y8) (A := linesL (tx)) h8 (split_rd2 Htx.out (List.mem_cons_of_mem _ List.mem_cons_self)) (Reads.row (e := 9) List.mem_cons_self))
        clear h8 C8
        go_wp2_with fail
        refine C9.out.mono ?_
        rintro e w9 ⟨rfl, h9⟩
        have H9 := Lib.hid h9
        clear h9 C9
        go_wp2_with fail
        go_ret
        exact ⟨rfl, H9.out.below⟩
      · obtain ⟨m, hm⟩ : ∃ m, tl = m + 1 := ⟨tl - 1, by have h1 := List.length_pos_iff.2 hx0; rw [← Htl.out] at h1; omega⟩
        have hwm : IntKind.i64.wrap ((tl : Int) - 1) = (m : Int) := by rw [IntKind.wrap_i64]; omega
        obtain ⟨b, hb⟩ : ∃ b, tx[m]? = some b := ⟨_, List.getElem?_eq_getElem (by rw [← Htl.out]; omega)⟩
        have hat := fun w => run_at hb w
        obtain ⟨hem, hem2⟩ := bs_ne hx0
        have hlm : tx.length = m + 1 := by rw [← Htl.out]; exact hm
        have hmt : m < tl := by omega
        clear hx0 hm
        by_cases hb10 : b = 10
        · subst hb10
          have hb0 : ((10 : UInt8).toNat : Int) = 10 := by decide
          rw [hb0] at hat
          have hcu := fun w => run_cut0 tx (i := m) (by rw [← Htl.out]; omega) w
          have hsx : splitF tx = linesL (tx.take m) := by rw [split_chop, chop_lf hlm hb]
          obtain ⟨cx, hcx⟩ : ∃ cx, cx = tx.take m := ⟨_, rfl⟩
          rw [← hcx] at hcu hsx
          have hcl : cx.length ≤ 10000 := by rw [hcx, List.length_take, ← Htl.out]; omega
          clear hb hcx hlm
          have C7 := Lib.hid (tsplit (l := tx) (by rw [← Htl.out]; omega) HM.out H6.out)
          have Htx := Lib.hid hsx
          clear hsx
          go_wp2_with fail
          refine C7.out.mono ?_
          rintro e w7 ⟨b7, rfl, h7⟩
          have C8 := Lib.hid (lawsplit (l := cx) (by exact hcl) h7)
          clear h7 C7
          go_wp2_with fail
          refine C8.out.mono ?_
          rintro e w8 ⟨⟨x8, y8⟩, rfl, h8⟩
          have C9 := Lib.hid (hstrings (va := .slice (some ⟨b7, 0, none⟩) (splitN tx) (linesL tx).length) (vb := .slice x8 (linesL cx).length y8) (A := linesL (cx)) h8 (split_rd2 Htx.out (List.mem_cons_of_mem _ List.mem_cons_self)) (Reads.row (e := 9) List.mem_cons_self))
          clear h8 C8
          go_wp2_with fail
          refine C9.out.mono ?_
          rintro e w9 ⟨rfl, h9⟩
          have H9 := Lib.hid h9
          clear h9 C9
          go_wp2_with fail
          go_ret
          exact ⟨rfl, H9.out.below⟩
        · have hbz : ((b.toNat : Int) == 10) = false := beq_eq_false_iff_ne.2 (fun h => hb10 (by apply UInt8.toNat_inj.1; show b.toNat = 10; omega))
          have hsx : splitF tx = linesL tx := by rw [split_chop, chop_no hlm hb hb10]
          obtain ⟨bv, hbv⟩ : ∃ bv, (b.toNat : Int) = bv := ⟨_, rfl⟩
          rw [hbv] at hat hbz
          clear hb hb10 hbv hlm
          have C7 := Lib.hid (tsplit (l := tx) (by rw [← Htl.out]; omega) HM.out H6.out)
          have Htx := Lib.hid hsx
          clear hsx
          go_wp2_with fail
          refine C7.out.mono ?_
          rintro e w7 ⟨b7, rfl, h7⟩
          have C8 := Lib.hid (lawsplit (l := tx) (by rw [← Htl.out]; omega) h7)
          clear h7 C7
          go_wp2_with fail
          refine C8.out.mono ?_
          rintro e w8 ⟨⟨x8, y8⟩, rfl, h8⟩
          have C9 := Lib.hid (hstrings (va := .slice (some ⟨b7, 0, none⟩) (splitN tx) (linesL tx).length) (vb := .slice x8 (linesL tx).length y8) (A := linesL (tx)) h8 (split_rd2 Htx.out (List.mem_cons_of_mem _ List.mem_cons_self)) (Reads.row (e := 9) List.mem_cons_self))
          clear h8 C8
          go_wp2_with fail
          refine C9.out.mono ?_
          rintro e w9 ⟨rfl, h9⟩
          have H9 := Lib.hid h9
          clear h9 C9
          go_wp2_with fail
          go_ret
          exact ⟨rfl, H9.out.below⟩
  | false =>
    have Hbr := Lib.hid hbr
    by_cases hbf : bk ≤ 4096
    rotate_left
    · have Cn := Lib.hid (tnew_full Hn.out hbr (by rw [← Hbk.out]; omega) (by rw [← Hbk.out]; exact hbb) H1.out (Hs.out _))
      clear hbr hr
      go_wp2_with fail
      refine Cn.out.mono ?_
      rintro e w2 ⟨rfl, h2⟩
      have cb := lbroken Hn.out Hx.out h2 (Hs.out _)
      rw [Hbr.out] at cb
      have Cb := Lib.hid cb
      have q := rsize Hn.out h2 (Hs.out _) (by rw [← Hbk.out]; exact hbb)
      rw [← Hbk.out] at q
      have Q2 := Lib.hid q
      have H5 := Lib.hid h2
      clear h2 cb q Cn H1 Q
      go_wp2_with fail
      refine Cb.out.mono ?_
      rintro e w4 ⟨rfl, rfl⟩
      clear Cb
      go_wp2_with fail
      refine Q2.out.mono ?_
      rintro e w5 ⟨rfl, rfl⟩
      clear Q2
      have hmk := run_make0 k (by omega)
      have hcv := conv0 k (by omega) w5
      have h3 := ((H5.out.alloc0 (.cells (madeCells #[Value.int .u8 0] k) 5)).alloc #[.string (bs (zeros k))] 9)
      obtain ⟨W6, hW6⟩ : ∃ W6, W6 = ((w5.alloc (.cells (madeCells #[Value.int .u8 0] k) 5)).alloc (.cells #[.string (bs (zeros k))] 9)) := ⟨_, rfl⟩
      rw [World.size_alloc, ← hW6] at h3
      obtain ⟨B, hB5⟩ : ∃ B, B = w5.heap.size + 1 := ⟨_, rfl⟩
      rw [← hB5] at h3
      have C6 := Lib.hid (newk (k := k) (by omega) h3 (Reads.obj (k := 1) (n := 1) (c := 1) List.mem_cons_self (by decide) (by decide) (by simp)))
      have HW6 := Lib.hid hW6
      have HB5 := Lib.hid hB5
      clear h3 hW6 hB5 H5
      have hr := Hr.out
      go_wp2_with fail
      rw [← HW6.out, ← HB5.out]
      refine C6.out.mono ?_
      rintro e w6 ⟨o, ev, rfl, hc, h6⟩
      have h6 := h6.drop
      clear hmk hcv C6 HW6 HB5 hr
      rcases hc with ⟨hkc, rfl, p6, rfl⟩ | ⟨hkc, rfl, rfl⟩
      · have H6 := Lib.hid h6
        clear h6
        by_cases hx0 : tx = []
        · have hsx : splitF tx = linesL tx := by rw [hx0]; exact split_chop []
          have hem : (bs tx).toList = [] := by rw [bs_toList, hx0]
          have hem2 : (bs tx).toList.isEmpty = true := by rw [hem]; rfl
          clear hx0
          have C7 := Lib.hid (tsplit (l := tx) (by rw [← Htl.out]; omega) HM.out H6.out)
          have Htx := Lib.hid hsx
          clear hsx
          go_wp2_with fail
          refine C7.out.mono ?_
          rintro e w7 ⟨b7, rfl, h7⟩
          have C8 := Lib.hid (lawsplit (l := tx) (by rw [← Htl.out]; omega) h7)
          clear h7 C7
          go_wp2_with fail
          refine C8.out.mono ?_
          rintro e w8 ⟨⟨x8, y8⟩, rfl, h8⟩
          have C9 := Lib.hid (hstrings (va := .slice (some ⟨b7, 0, none⟩) (splitN tx) (linesL tx).length) (vb := .slice x8 (linesL tx).length y8) (A := linesL (tx)) h8 (split_rd2 Htx.out (List.mem_cons_of_mem _ List.mem_cons_self)) (Reads.row (e := 9) List.mem_cons_self))
          clear h8 C8
          go_wp2_with fail
          refine C9.out.mono ?_
          rintro e w9 ⟨rfl, h9⟩
          have H9 := Lib.hid h9
          clear h9 C9
          go_wp2_with fail
          go_ret
          exact ⟨rfl, H9.out.below⟩
        · obtain ⟨m, hm⟩ : ∃ m, tl = m + 1 := ⟨tl - 1, by have h1 := List.length_pos_iff.2 hx0; rw [← Htl.out] at h1; omega⟩
          have hwm : IntKind.i64.wrap ((tl : Int) - 1) = (m : Int) := by rw [IntKind.wrap_i64]; omega
          obtain ⟨b, hb⟩ : ∃ b, tx[m]? = some b := ⟨_, List.getElem?_eq_getElem (by rw [← Htl.out]; omega)⟩
          have hat := fun w => run_at hb w
          obtain ⟨hem, hem2⟩ := bs_ne hx0
          have hlm : tx.length = m + 1 := by rw [← Htl.out]; exact hm
          have hmt : m < tl := by omega
          clear hx0 hm
          by_cases hb10 : b = 10
          · subst hb10
            have hb0 : ((10 : UInt8).toNat : Int) = 10 := by decide
            rw [hb0] at hat
            have hcu := fun w => run_cut0 tx (i := m) (by rw [← Htl.out]; omega) w
            have hsx : splitF tx = linesL (tx.take m) := by rw [split_chop, chop_lf hlm hb]
            obtain ⟨cx, hcx⟩ : ∃ cx, cx = tx.take m := ⟨_, rfl⟩
            rw [← hcx] at hcu hsx
            have hcl : cx.length ≤ 10000 := by rw [hcx, List.length_take, ← Htl.out]; omega
            clear hb hcx hlm
            have C7 := Lib.hid (tsplit (l := tx) (by rw [← Htl.out]; omega) HM.out H6.out)
            have Htx := Lib.hid hsx
            clear hsx
            go_wp2_with fail
            refine C7.out.mono ?_
            rintro e w7 ⟨b7, rfl, h7⟩
            have C8 := Lib.hid (lawsplit (l := cx) (by exact hcl) h7)
            clear h7 C7
            go_wp2_with fail
            refine C8.out.mono ?_
            rintro e w8 ⟨⟨x8, y8⟩, rfl, h8⟩
            have C9 := Lib.hid (hstrings (va := .slice (some ⟨b7, 0, none⟩) (splitN tx) (linesL tx).length) (vb := .slice x8 (linesL cx).length y8) (A := linesL (cx)) h8 (split_rd2 Htx.out (List.mem_cons_of_mem _ List.mem_cons_self)) (Reads.row (e := 9) List.mem_cons_self))
            clear h8 C8
            go_wp2_with fail
            refine C9.out.mono ?_
            rintro e w9 ⟨rfl, h9⟩
            have H9 := Lib.hid h9
            clear h9 C9
            go_wp2_with fail
            go_ret
            exact ⟨rfl, H9.out.below⟩
          · have hbz : ((b.toNat : Int) == 10) = false := beq_eq_false_iff_ne.2 (fun h => hb10 (by apply UInt8.toNat_inj.1; show b.toNat = 10; omega))
            have hsx : splitF tx = linesL tx := by rw [split_chop, chop_no hlm hb hb10]
            obtain ⟨bv, hbv⟩ : ∃ bv, (b.toNat : Int) = bv := ⟨_, rfl⟩
            rw [hbv] at hat hbz
            clear hb hb10 hbv hlm
            have C7 := Lib.hid (tsplit (l := tx) (by rw [← Htl.out]; omega) HM.out H6.out)
            have Htx := Lib.hid hsx
            clear hsx
            go_wp2_with fail
            refine C7.out.mono ?_
            rintro e w7 ⟨b7, rfl, h7⟩
            have C8 := Lib.hid (lawsplit (l := tx) (by rw [← Htl.out]; omega) h7)
            clear h7 C7
            go_wp2_with fail
            refine C8.out.mono ?_
            rintro e w8 ⟨⟨x8, y8⟩, rfl, h8⟩
            have C9 := Lib.hid (hstrings (va := .slice (some ⟨b7, 0, none⟩) (splitN tx) (linesL tx).length) (vb := .slice x8 (linesL tx).length y8) (A := linesL (tx)) h8 (split_rd2 Htx.out (List.mem_cons_of_mem _ List.mem_cons_self)) (Reads.row (e := 9) List.mem_cons_self))
            clear h8 C8
            go_wp2_with fail
            refine C9.out.mono ?_
            rintro e w9 ⟨rfl, h9⟩
            have H9 := Lib.hid h9
            clear h9 C9
            go_wp2_with fail
            go_ret
            exact ⟨rfl, H9.out.below⟩
      · have H6 := Lib.hid h6
        clear h6
        by_cases hx0 : tx = []
        · have hsx : splitF tx = linesL tx := by rw [hx0]; exact split_chop []
          have hem : (bs tx).toList = [] := by rw [bs_toList, hx0]
          have hem2 : (bs tx).toList.isEmpty = true := by rw [hem]; rfl
          clear hx0
          have C7 := Lib.hid (tsplit (l := tx) (by rw [← Htl.out]; omega) HM.out H6.out)
          have Htx := Lib.hid hsx
          clear hsx
          go_wp2_with fail
          refine C7.out.mono ?_
          rintro e w7 ⟨b7, rfl, h7⟩
          have C8 := Lib.hid (lawsplit (l := tx) (by rw [← Htl.out]; omega) h7)
          clear h7 C7
          go_wp2_with fail
          refine C8.out.mono ?_
          rintro e w8 ⟨⟨x8, y8⟩, rfl, h8⟩
          have C9 := Lib.hid (hstrings (va := .slice (some ⟨b7, 0, none⟩) (splitN tx) (linesL tx).length) (vb := .slice x8 (linesL tx).length y8) (A := linesL (tx)) h8 (split_rd2 Htx.out (List.mem_cons_of_mem _ List.mem_cons_self)) (Reads.row (e := 9) List.mem_cons_self))
          clear h8 C8
          go_wp2_with fail
          refine C9.out.mono ?_
          rintro e w9 ⟨rfl, h9⟩
          have H9 := Lib.hid h9
          clear h9 C9
          go_wp2_with fail
          go_ret
          exact ⟨rfl, H9.out.below⟩
        · obtain ⟨m, hm⟩ : ∃ m, tl = m + 1 := ⟨tl - 1, by have h1 := List.length_pos_iff.2 hx0; rw [← Htl.out] at h1; omega⟩
          have hwm : IntKind.i64.wrap ((tl : Int) - 1) = (m : Int) := by rw [IntKind.wrap_i64]; omega
          obtain ⟨b, hb⟩ : ∃ b, tx[m]? = some b := ⟨_, List.getElem?_eq_getElem (by rw [← Htl.out]; omega)⟩
          have hat := fun w => run_at hb w
          obtain ⟨hem, hem2⟩ := bs_ne hx0
          have hlm : tx.length = m + 1 := by rw [← Htl.out]; exact hm
          have hmt : m < tl := by omega
          clear hx0 hm
          by_cases hb10 : b = 10
          · subst hb10
            have hb0 : ((10 : UInt8).toNat : Int) = 10 := by decide
            rw [hb0] at hat
            have hcu := fun w => run_cut0 tx (i := m) (by rw [← Htl.out]; omega) w
            have hsx : splitF tx = linesL (tx.take m) := by rw [split_chop, chop_lf hlm hb]
            obtain ⟨cx, hcx⟩ : ∃ cx, cx = tx.take m := ⟨_, rfl⟩
            rw [← hcx] at hcu hsx
            have hcl : cx.length ≤ 10000 := by rw [hcx, List.length_take, ← Htl.out]; omega
            clear hb hcx hlm
            have C7 := Lib.hid (tsplit (l := tx) (by rw [← Htl.out]; omega) HM.out H6.out)
            have Htx := Lib.hid hsx
            clear hsx
            go_wp2_with fail
            refine C7.out.mono ?_
            rintro e w7 ⟨b7, rfl, h7⟩
            have C8 := Lib.hid (lawsplit (l := cx) (by exact hcl) h7)
            clear h7 C7
            go_wp2_with fail
            refine C8.out.mono ?_
            rintro e w8 ⟨⟨x8, y8⟩, rfl, h8⟩
            have C9 := Lib.hid (hstrings (va := .slice (some ⟨b7, 0, none⟩) (splitN tx) (linesL tx).length) (vb := .slice x8 (linesL cx).length y8) (A := linesL (cx)) h8 (split_rd2 Htx.out (List.mem_cons_of_mem _ List.mem_cons_self)) (Reads.row (e := 9) List.mem_cons_self))
            clear h8 C8
            go_wp2_with fail
            refine C9.out.mono ?_
            rintro e w9 ⟨rfl, h9⟩
            have H9 := Lib.hid h9
            clear h9 C9
            go_wp2_with fail
            go_ret
            exact ⟨rfl, H9.out.below⟩
          · have hbz : ((b.toNat : Int) == 10) = false := beq_eq_false_iff_ne.2 (fun h => hb10 (by apply UInt8.toNat_inj.1; show b.toNat = 10; omega))
            have hsx : splitF tx = linesL tx := by rw [split_chop, chop_no hlm hb hb10]
            obtain ⟨bv, hbv⟩ : ∃ bv, (b.toNat : Int) = bv := ⟨_, rfl⟩
            rw [hbv] at hat hbz
            clear hb hb10 hbv hlm
            have C7 := Lib.hid (tsplit (l := tx) (by rw [← Htl.out]; omega) HM.out H6.out)
            have Htx := Lib.hid hsx
            clear hsx
            go_wp2_with fail
            refine C7.out.mono ?_
            rintro e w7 ⟨b7, rfl, h7⟩
            have C8 := Lib.hid (lawsplit (l := tx) (by rw [← Htl.out]; omega) h7)
            clear h7 C7
            go_wp2_with fail
            refine C8.out.mono ?_
            rintro e w8 ⟨⟨x8, y8⟩, rfl, h8⟩
            have C9 := Lib.hid (hstrings (va := .slice (some ⟨b7, 0, none⟩) (splitN tx) (linesL tx).length) (vb := .slice x8 (linesL tx).length y8) (A := linesL (tx)) h8 (split_rd2 Htx.out (List.mem_cons_of_mem _ List.mem_cons_self)) (Reads.row (e := 9) List.mem_cons_self))
            clear h8 C8
            go_wp2_with fail
            refine C9.out.mono ?_
            rintro e w9 ⟨rfl, h9⟩
            have H9 := Lib.hid h9
            clear h9 C9
            go_wp2_with fail
            go_ret
            exact ⟨rfl, H9.out.below⟩
    · by_cases hn0 : n = 0
      · subst hn0
        have Cn := Lib.hid (tnew_nil (a := la) (c := lc) H1.out)
        clear hbr hr
        go_wp2_with fail
        refine Cn.out.mono ?_
        rintro e w2 ⟨p, rfl, h2⟩
        dsimp only at h2
        have cb := lbroken Hn.out Hx.out h2 (Hs.out _)
        rw [Hbr.out] at cb
        have Cb := Lib.hid cb
        have q := rsize Hn.out h2 (Hs.out _) (by rw [← Hbk.out]; exact hbb)
        rw [← Hbk.out] at q
        have Q2 := Lib.hid q
        have H2 := Lib.hid h2
        clear h2 cb q Cn H1 Q
        go_wp2_with fail
        refine Cb.out.mono ?_
        rintro e w4 ⟨rfl, rfl⟩
        clear Cb
        go_wp2_with fail
        refine Q2.out.mono ?_
        rintro e w4 ⟨rfl, rfl⟩
        clear Q2
        have h3 : Owns w w4 (tbufA p (joinL [[]]) 0 0 :: []) := by rw [joinL_one]; exact H2.out
        have h4 := h3.alloc #[.string ⟨#[]⟩] 9
        have hk4 : RdL w (Asrt.obj w4.heap.size (.cells #[.string ⟨#[]⟩] 9 (0, 0)) :: []) (.slice (some ⟨w4.heap.size, 0, none⟩) 1 1) [[]] := Reads.obj (k := 1) (n := 1) (c := 1) List.mem_cons_self (by decide) (by decide) (by simp)
        have C4 := Lib.hid (whole_true (c := 1) (W := [[]]) ⟨by simp, rfl, by decide⟩ HM.out rfl hk4 (by omega) h4.p1)
        clear h3 h4 hk4 H2
        go_wp2_with fail
        refine C4.out.mono ?_
        rintro e w5 ⟨rfl, h5⟩
        have H5 := Lib.hid h5
        clear h5 C4
        have hmk := run_make0 k (by omega)
        have hcv := conv0 k (by omega) w5
        have h3 := ((H5.out.alloc0 (.cells (madeCells #[Value.int .u8 0] k) 5)).alloc #[.string (bs (zeros k))] 9)
        obtain ⟨W6, hW6⟩ : ∃ W6, W6 = ((w5.alloc (.cells (madeCells #[Value.int .u8 0] k) 5)).alloc (.cells #[.string (bs (zeros k))] 9)) := ⟨_, rfl⟩
        rw [World.size_alloc, ← hW6] at h3
        obtain ⟨B, hB5⟩ : ∃ B, B = w5.heap.size + 1 := ⟨_, rfl⟩
        rw [← hB5] at h3
        have C6 := Lib.hid (newk (k := k) (by omega) h3 (Reads.obj (k := 1) (n := 1) (c := 1) List.mem_cons_self (by decide) (by decide) (by simp)))
        have HW6 := Lib.hid hW6
        have HB5 := Lib.hid hB5
        clear h3 hW6 hB5 H5
        have hr := Hr.out
        go_wp2_with fail
        rw [← HW6.out, ← HB5.out]
        refine C6.out.mono ?_
        rintro e w6 ⟨o, ev, rfl, hc, h6⟩
        have h6 := h6.drop
        clear hmk hcv C6 HW6 HB5 hr
        rcases hc with ⟨hkc, rfl, p6, rfl⟩ | ⟨hkc, rfl, rfl⟩
        · have H6 := Lib.hid h6
          clear h6
          by_cases hx0 : tx = []
          · have hsx : splitF tx = linesL tx := by rw [hx0]; exact split_chop []
            have hem : (bs tx).toList = [] := by rw [bs_toList, hx0]
            have hem2 : (bs tx).toList.isEmpty = true := by rw [hem]; rfl
            clear hx0
            have C7 := Lib.hid (tsplit (l := tx) (by rw [← Htl.out]; omega) HM.out H6.out)
            have Htx := Lib.hid hsx
            clear hsx
            go_wp2_with fail
            refine C7.out.mono ?_
            rintro e w7 ⟨b7, rfl, h7⟩
            have C8 := Lib.hid (lawsplit (l := tx) (by rw [← Htl.out]; omega) h7)
            clear h7 C7
            go_wp2_with fail
            refine C8.out.mono ?_
            rintro e w8 ⟨⟨x8, y8⟩, rfl, h8⟩
            have C9 := Lib.hid (hstrings (va := .slice (some ⟨b7, 0, none⟩) (splitN tx) (linesL tx).length) (vb := .slice x8 (linesL tx).length y8) (A := linesL (tx)) h8 (split_rd2 Htx.out (List.mem_cons_of_mem _ List.mem_cons_self)) (Reads.row (e := 9) List.mem_cons_self))
            clear h8 C8
            go_wp2_with fail
            refine C9.out.mono ?_
            rintro e w9 ⟨rfl, h9⟩
            have H9 := Lib.hid h9
            clear h9 C9
            go_wp2_with fail
            go_ret
            exact ⟨rfl, H9.out.below⟩
          · obtain ⟨m, hm⟩ : ∃ m, tl = m + 1 := ⟨tl - 1, by have h1 := List.length_pos_iff.2 hx0; rw [← Htl.out] at h1; omega⟩
            have hwm : IntKind.i64.wrap ((tl : Int) - 1) = (m : Int) := by rw [IntKind.wrap_i64]; omega
            obtain ⟨b, hb⟩ : ∃ b, tx[m]? = some b := ⟨_, List.getElem?_eq_getElem (by rw [← Htl.out]; omega)⟩
            have hat := fun w => run_at hb w
            obtain ⟨hem, hem2⟩ := bs_ne hx0
            have hlm : tx.length = m + 1 := by rw [← Htl.out]; exact hm
            have hmt : m < tl := by omega
            clear hx0 hm
            by_cases hb10 : b = 10
            · subst hb10
              have hb0 : ((10 : UInt8).toNat : Int) = 10 := by decide
              rw [hb0] at hat
              have hcu := fun w => run_cut0 tx (i := m) (by rw [← Htl.out]; omega) w
              have hsx : splitF tx = linesL (tx.take m) := by rw [split_chop, chop_lf hlm hb]
              obtain ⟨cx, hcx⟩ : ∃ cx, cx = tx.take m := ⟨_, rfl⟩
              rw [← hcx] at hcu hsx
              have hcl : cx.length ≤ 10000 := by rw [hcx, List.length_take, ← Htl.out]; omega
              clear hb hcx hlm
              have C7 := Lib.hid (tsplit (l := tx) (by rw [← Htl.out]; omega) HM.out H6.out)
              have Htx := Lib.hid hsx
              clear hsx
              go_wp2_with fail
              refine C7.out.mono ?_
              rintro e w7 ⟨b7, rfl, h7⟩
              have C8 := Lib.hid (lawsplit (l := cx) (by exact hcl) h7)
              clear h7 C7
              go_wp2_with fail
              refine C8.out.mono ?_
              rintro e w8 ⟨⟨x8, y8⟩, rfl, h8⟩
              have C9 := Lib.hid (hstrings (va := .slice (some ⟨b7, 0, none⟩) (splitN tx) (linesL tx).length) (vb := .slice x8 (linesL cx).length y8) (A := linesL (cx)) h8 (split_rd2 Htx.out (List.mem_cons_of_mem _ List.mem_cons_self)) (Reads.row (e := 9) List.mem_cons_self))
              clear h8 C8
              go_wp2_with fail
              refine C9.out.mono ?_
              rintro e w9 ⟨rfl, h9⟩
              have H9 := Lib.hid h9
              clear h9 C9
              go_wp2_with fail
              go_ret
              exact ⟨rfl, H9.out.below⟩
            · have hbz : ((b.toNat : Int) == 10) = false := beq_eq_false_iff_ne.2 (fun h => hb10 (by apply UInt8.toNat_inj.1; show b.toNat = 10; omega))
              have hsx : splitF tx = linesL tx := by rw [split_chop, chop_no hlm hb hb10]
              obtain ⟨bv, hbv⟩ : ∃ bv, (b.toNat : Int) = bv := ⟨_, rfl⟩
              rw [hbv] at hat hbz
              clear hb hb10 hbv hlm
              have C7 := Lib.hid (tsplit (l := tx) (by rw [← Htl.out]; omega) HM.out H6.out)
              have Htx := Lib.hid hsx
              clear hsx
              go_wp2_with fail
              refine C7.out.mono ?_
              rintro e w7 ⟨b7, rfl, h7⟩
              have C8 := Lib.hid (lawsplit (l := tx) (by rw [← Htl.out]; omega) h7)
              clear h7 C7
              go_wp2_with fail
              refine C8.out.mono ?_
              rintro e w8 ⟨⟨x8, y8⟩, rfl, h8⟩
              have C9 := Lib.hid (hstrings (va := .slice (some ⟨b7, 0, none⟩) (splitN tx) (linesL tx).length) (vb := .slice x8 (linesL tx).length y8) (A := linesL (tx)) h8 (split_rd2 Htx.out (List.mem_cons_of_mem _ List.mem_cons_self)) (Reads.row (e := 9) List.mem_cons_self))
              clear h8 C8
              go_wp2_with fail
              refine C9.out.mono ?_
              rintro e w9 ⟨rfl, h9⟩
              have H9 := Lib.hid h9
              clear h9 C9
              go_wp2_with fail
              go_ret
              exact ⟨rfl, H9.out.below⟩
        · have H6 := Lib.hid h6
          clear h6
          by_cases hx0 : tx = []
          · have hsx : splitF tx = linesL tx := by rw [hx0]; exact split_chop []
            have hem : (bs tx).toList = [] := by rw [bs_toList, hx0]
            have hem2 : (bs tx).toList.isEmpty = true := by rw [hem]; rfl
            clear hx0
            have C7 := Lib.hid (tsplit (l := tx) (by rw [← Htl.out]; omega) HM.out H6.out)
            have Htx := Lib.hid hsx
            clear hsx
            go_wp2_with fail
            refine C7.out.mono ?_
            rintro e w7 ⟨b7, rfl, h7⟩
            have C8 := Lib.hid (lawsplit (l := tx) (by rw [← Htl.out]; omega) h7)
            clear h7 C7
            go_wp2_with fail
            refine C8.out.mono ?_
            rintro e w8 ⟨⟨x8, y8⟩, rfl, h8⟩
            have C9 := Lib.hid (hstrings (va := .slice (some ⟨b7, 0, none⟩) (splitN tx) (linesL tx).length) (vb := .slice x8 (linesL tx).length y8) (A := linesL (tx)) h8 (split_rd2 Htx.out (List.mem_cons_of_mem _ List.mem_cons_self)) (Reads.row (e := 9) List.mem_cons_self))
            clear h8 C8
            go_wp2_with fail
            refine C9.out.mono ?_
            rintro e w9 ⟨rfl, h9⟩
            have H9 := Lib.hid h9
            clear h9 C9
            go_wp2_with fail
            go_ret
            exact ⟨rfl, H9.out.below⟩
          · obtain ⟨m, hm⟩ : ∃ m, tl = m + 1 := ⟨tl - 1, by have h1 := List.length_pos_iff.2 hx0; rw [← Htl.out] at h1; omega⟩
            have hwm : IntKind.i64.wrap ((tl : Int) - 1) = (m : Int) := by rw [IntKind.wrap_i64]; omega
            obtain ⟨b, hb⟩ : ∃ b, tx[m]? = some b := ⟨_, List.getElem?_eq_getElem (by rw [← Htl.out]; omega)⟩
            have hat := fun w => run_at hb w
            obtain ⟨hem, hem2⟩ := bs_ne hx0
            have hlm : tx.length = m + 1 := by rw [← Htl.out]; exact hm
            have hmt : m < tl := by omega
            clear hx0 hm
            by_cases hb10 : b = 10
            · subst hb10
              have hb0 : ((10 : UInt8).toNat : Int) = 10 := by decide
              rw [hb0] at hat
              have hcu := fun w => run_cut0 tx (i := m) (by rw [← Htl.out]; omega) w
              have hsx : splitF tx = linesL (tx.take m) := by rw [split_chop, chop_lf hlm hb]
              obtain ⟨cx, hcx⟩ : ∃ cx, cx = tx.take m := ⟨_, rfl⟩
              rw [← hcx] at hcu hsx
              have hcl : cx.length ≤ 10000 := by rw [hcx, List.length_take, ← Htl.out]; omega
              clear hb hcx hlm
              have C7 := Lib.hid (tsplit (l := tx) (by rw [← Htl.out]; omega) HM.out H6.out)
              have Htx := Lib.hid hsx
              clear hsx
              go_wp2_with fail
              refine C7.out.mono ?_
              rintro e w7 ⟨b7, rfl, h7⟩
              have C8 := Lib.hid (lawsplit (l := cx) (by exact hcl) h7)
              clear h7 C7
              go_wp2_with fail
              refine C8.out.mono ?_
              rintro e w8 ⟨⟨x8, y8⟩, rfl, h8⟩
              have C9 := Lib.hid (hstrings (va := .slice (some ⟨b7, 0, none⟩) (splitN tx) (linesL tx).length) (vb := .slice x8 (linesL cx).length y8) (A := linesL (cx)) h8 (split_rd2 Htx.out (List.mem_cons_of_mem _ List.mem_cons_self)) (Reads.row (e := 9) List.mem_cons_self))
              clear h8 C8
              go_wp2_with fail
              refine C9.out.mono ?_
              rintro e w9 ⟨rfl, h9⟩
              have H9 := Lib.hid h9
              clear h9 C9
              go_wp2_with fail
              go_ret
              exact ⟨rfl, H9.out.below⟩
            · have hbz : ((b.toNat : Int) == 10) = false := beq_eq_false_iff_ne.2 (fun h => hb10 (by apply UInt8.toNat_inj.1; show b.toNat = 10; omega))
              have hsx : splitF tx = linesL tx := by rw [split_chop, chop_no hlm hb hb10]
              obtain ⟨bv, hbv⟩ : ∃ bv, (b.toNat : Int) = bv := ⟨_, rfl⟩
              rw [hbv] at hat hbz
              clear hb hb10 hbv hlm
              have C7 := Lib.hid (tsplit (l := tx) (by rw [← Htl.out]; omega) HM.out H6.out)
              have Htx := Lib.hid hsx
              clear hsx
              go_wp2_with fail
              refine C7.out.mono ?_
              rintro e w7 ⟨b7, rfl, h7⟩
              have C8 := Lib.hid (lawsplit (l := tx) (by rw [← Htl.out]; omega) h7)
              clear h7 C7
              go_wp2_with fail
              refine C8.out.mono ?_
              rintro e w8 ⟨⟨x8, y8⟩, rfl, h8⟩
              have C9 := Lib.hid (hstrings (va := .slice (some ⟨b7, 0, none⟩) (splitN tx) (linesL tx).length) (vb := .slice x8 (linesL tx).length y8) (A := linesL (tx)) h8 (split_rd2 Htx.out (List.mem_cons_of_mem _ List.mem_cons_self)) (Reads.row (e := 9) List.mem_cons_self))
              clear h8 C8
              go_wp2_with fail
              refine C9.out.mono ?_
              rintro e w9 ⟨rfl, h9⟩
              have H9 := Lib.hid h9
              clear h9 C9
              go_wp2_with fail
              go_ret
              exact ⟨rfl, H9.out.below⟩
      · have hB : BufI L := ⟨fun e => hn0 (by rw [Hn.out, e]; rfl), hbr, by rw [← Hbk.out]; exact hbf⟩
        have HB := Lib.hid hB
        have hnz : ((n : Int) == 0) = false := beq_eq_false_iff_ne.2 (by omega)
        have Cn := Lib.hid (tnew Hn.out hB H1.out (Hs.out _))
        clear hbr hr hB
        go_wp2_with fail
        refine Cn.out.mono ?_
        rintro e w2 ⟨p, rfl, h2⟩
        dsimp only at h2
        have cb := lbroken Hn.out Hx.out h2 (Hs.out _)
        rw [Hbr.out] at cb
        have Cb := Lib.hid cb
        have q := rsize Hn.out h2 (Hs.out _) (by rw [← Hbk.out]; exact hbb)
        rw [← Hbk.out] at q
        have Q2 := Lib.hid q
        have H2 := Lib.hid h2
        clear h2 cb q Cn H1 Q
        go_wp2_with fail
        refine Cb.out.mono ?_
        rintro e w4 ⟨rfl, rfl⟩
        clear Cb
        go_wp2_with fail
        refine Q2.out.mono ?_
        rintro e w4 ⟨rfl, rfl⟩
        clear Q2
        have C4 := Lib.hid (whole_true HB.out HM.out Hn.out (Hs.out _) (by decide) H2.out)
        clear H2
        go_wp2_with fail
        refine C4.out.mono ?_
        rintro e w5 ⟨rfl, h5⟩
        have H5 := Lib.hid h5
        clear h5 C4
        have hmk := run_make0 k (by omega)
        have hcv := conv0 k (by omega) w5
        have h3 := ((H5.out.alloc0 (.cells (madeCells #[Value.int .u8 0] k) 5)).alloc #[.string (bs (zeros k))] 9)
        obtain ⟨W6, hW6⟩ : ∃ W6, W6 = ((w5.alloc (.cells (madeCells #[Value.int .u8 0] k) 5)).alloc (.cells #[.string (bs (zeros k))] 9)) := ⟨_, rfl⟩
        rw [World.size_alloc, ← hW6] at h3
        obtain ⟨B, hB5⟩ : ∃ B, B = w5.heap.size + 1 := ⟨_, rfl⟩
        rw [← hB5] at h3
        have C6 := Lib.hid (newk (k := k) (by omega) h3 (Reads.obj (k := 1) (n := 1) (c := 1) List.mem_cons_self (by decide) (by decide) (by simp)))
        have HW6 := Lib.hid hW6
        have HB5 := Lib.hid hB5
        clear h3 hW6 hB5 H5
        have hr := Hr.out
        go_wp2_with fail
        rw [← HW6.out, ← HB5.out]
        refine C6.out.mono ?_
        rintro e w6 ⟨o, ev, rfl, hc, h6⟩
        have h6 := h6.drop
        clear hmk hcv C6 HW6 HB5 hr
        rcases hc with ⟨hkc, rfl, p6, rfl⟩ | ⟨hkc, rfl, rfl⟩
        · have H6 := Lib.hid h6
          clear h6
          by_cases hx0 : tx = []
          · have hsx : splitF tx = linesL tx := by rw [hx0]; exact split_chop []
            have hem : (bs tx).toList = [] := by rw [bs_toList, hx0]
            have hem2 : (bs tx).toList.isEmpty = true := by rw [hem]; rfl
            clear hx0
            have C7 := Lib.hid (tsplit (l := tx) (by rw [← Htl.out]; omega) HM.out H6.out)
            have Htx := Lib.hid hsx
            clear hsx
            go_wp2_with fail
            refine C7.out.mono ?_
            rintro e w7 ⟨b7, rfl, h7⟩
            have C8 := Lib.hid (lawsplit (l := tx) (by rw [← Htl.out]; omega) h7)
            clear h7 C7
            go_wp2_with fail
            refine C8.out.mono ?_
            rintro e w8 ⟨⟨x8, y8⟩, rfl, h8⟩
            have C9 := Lib.hid (hstrings (va := .slice (some ⟨b7, 0, none⟩) (splitN tx) (linesL tx).length) (vb := .slice x8 (linesL tx).length y8) (A := linesL (tx)) h8 (split_rd2 Htx.out (List.mem_cons_of_mem _ List.mem_cons_self)) (Reads.row (e := 9) List.mem_cons_self))
            clear h8 C8
            go_wp2_with fail
            refine C9.out.mono ?_
            rintro e w9 ⟨rfl, h9⟩
            have H9 := Lib.hid h9
            clear h9 C9
            go_wp2_with fail
            go_ret
            exact ⟨rfl, H9.out.below⟩
          · obtain ⟨m, hm⟩ : ∃ m, tl = m + 1 := ⟨tl - 1, by have h1 := List.length_pos_iff.2 hx0; rw [← Htl.out] at h1; omega⟩
            have hwm : IntKind.i64.wrap ((tl : Int) - 1) = (m : Int) := by rw [IntKind.wrap_i64]; omega
            obtain ⟨b, hb⟩ : ∃ b, tx[m]? = some b := ⟨_, List.getElem?_eq_getElem (by rw [← Htl.out]; omega)⟩
            have hat := fun w => run_at hb w
            obtain ⟨hem, hem2⟩ := bs_ne hx0
            have hlm : tx.length = m + 1 := by rw [← Htl.out]; exact hm
            have hmt : m < tl := by omega
            clear hx0 hm
            by_cases hb10 : b = 10
            · subst hb10
              have hb0 : ((10 : UInt8).toNat : Int) = 10 := by decide
              rw [hb0] at hat
              have hcu := fun w => run_cut0 tx (i := m) (by rw [← Htl.out]; omega) w
              have hsx : splitF tx = linesL (tx.take m) := by rw [split_chop, chop_lf hlm hb]
              obtain ⟨cx, hcx⟩ : ∃ cx, cx = tx.take m := ⟨_, rfl⟩
              rw [← hcx] at hcu hsx
              have hcl : cx.length ≤ 10000 := by rw [hcx, List.length_take, ← Htl.out]; omega
              clear hb hcx hlm
              have C7 := Lib.hid (tsplit (l := tx) (by rw [← Htl.out]; omega) HM.out H6.out)
              have Htx := Lib.hid hsx
              clear hsx
              go_wp2_with fail
              refine C7.out.mono ?_
              rintro e w7 ⟨b7, rfl, h7⟩
              have C8 := Lib.hid (lawsplit (l := cx) (by exact hcl) h7)
              clear h7 C7
              go_wp2_with fail
              refine C8.out.mono ?_
              rintro e w8 ⟨⟨x8, y8⟩, rfl, h8⟩
              have C9 := Lib.hid (hstrings (va := .slice (some ⟨b7, 0, none⟩) (splitN tx) (linesL tx).length) (vb := .slice x8 (linesL cx).length y8) (A := linesL (cx)) h8 (split_rd2 Htx.out (List.mem_cons_of_mem _ List.mem_cons_self)) (Reads.row (e := 9) List.mem_cons_self))
              clear h8 C8
              go_wp2_with fail
              refine C9.out.mono ?_
              rintro e w9 ⟨rfl, h9⟩
              have H9 := Lib.hid h9
              clear h9 C9
              go_wp2_with fail
              go_ret
              exact ⟨rfl, H9.out.below⟩
            · have hbz : ((b.toNat : Int) == 10) = false := beq_eq_false_iff_ne.2 (fun h => hb10 (by apply UInt8.toNat_inj.1; show b.toNat = 10; omega))
              have hsx : splitF tx = linesL tx := by rw [split_chop, chop_no hlm hb hb10]
              obtain ⟨bv, hbv⟩ : ∃ bv, (b.toNat : Int) = bv := ⟨_, rfl⟩
              rw [hbv] at hat hbz
              clear hb hb10 hbv hlm
              have C7 := Lib.hid (tsplit (l := tx) (by rw [← Htl.out]; omega) HM.out H6.out)
              have Htx := Lib.hid hsx
              clear hsx
              go_wp2_with fail
              refine C7.out.mono ?_
              rintro e w7 ⟨b7, rfl, h7⟩
              have C8 := Lib.hid (lawsplit (l := tx) (by rw [← Htl.out]; omega) h7)
              clear h7 C7
              go_wp2_with fail
              refine C8.out.mono ?_
              rintro e w8 ⟨⟨x8, y8⟩, rfl, h8⟩
              have C9 := Lib.hid (hstrings (va := .slice (some ⟨b7, 0, none⟩) (splitN tx) (linesL tx).length) (vb := .slice x8 (linesL tx).length y8) (A := linesL (tx)) h8 (split_rd2 Htx.out (List.mem_cons_of_mem _ List.mem_cons_self)) (Reads.row (e := 9) List.mem_cons_self))
              clear h8 C8
              go_wp2_with fail
              refine C9.out.mono ?_
              rintro e w9 ⟨rfl, h9⟩
              have H9 := Lib.hid h9
              clear h9 C9
              go_wp2_with fail
              go_ret
              exact ⟨rfl, H9.out.below⟩
        · have H6 := Lib.hid h6
          clear h6
          by_cases hx0 : tx = []
          · have hsx : splitF tx = linesL tx := by rw [hx0]; exact split_chop []
            have hem : (bs tx).toList = [] := by rw [bs_toList, hx0]
            have hem2 : (bs tx).toList.isEmpty = true := by rw [hem]; rfl
            clear hx0
            have C7 := Lib.hid (tsplit (l := tx) (by rw [← Htl.out]; omega) HM.out H6.out)
            have Htx := Lib.hid hsx
            clear hsx
            go_wp2_with fail
            refine C7.out.mono ?_
            rintro e w7 ⟨b7, rfl, h7⟩
            have C8 := Lib.hid (lawsplit (l := tx) (by rw [← Htl.out]; omega) h7)
            clear h7 C7
            go_wp2_with fail
            refine C8.out.mono ?_
            rintro e w8 ⟨⟨x8, y8⟩, rfl, h8⟩
            have C9 := Lib.hid (hstrings (va := .slice (some ⟨b7, 0, none⟩) (splitN tx) (linesL tx).length) (vb := .slice x8 (linesL tx).length y8) (A := linesL (tx)) h8 (split_rd2 Htx.out (List.mem_cons_of_mem _ List.mem_cons_self)) (Reads.row (e := 9) List.mem_cons_self))
            clear h8 C8
            go_wp2_with fail
            refine C9.out.mono ?_
            rintro e w9 ⟨rfl, h9⟩
            have H9 := Lib.hid h9
            clear h9 C9
            go_wp2_with fail
            go_ret
            exact ⟨rfl, H9.out.below⟩
          · obtain ⟨m, hm⟩ : ∃ m, tl = m + 1 := ⟨tl - 1, by have h1 := List.length_pos_iff.2 hx0; rw [← Htl.out] at h1; omega⟩
            have hwm : IntKind.i64.wrap ((tl : Int) - 1) = (m : Int) := by rw [IntKind.wrap_i64]; omega
            obtain ⟨b, hb⟩ : ∃ b, tx[m]? = some b := ⟨_, List.getElem?_eq_getElem (by rw [← Htl.out]; omega)⟩
            have hat := fun w => run_at hb w
            obtain ⟨hem, hem2⟩ := bs_ne hx0
            have hlm : tx.length = m + 1 := by rw [← Htl.out]; exact hm
            have hmt : m < tl := by omega
            clear hx0 hm
            by_cases hb10 : b = 10
            · subst hb10
              have hb0 : ((10 : UInt8).toNat : Int) = 10 := by decide
              rw [hb0] at hat
              have hcu := fun w => run_cut0 tx (i := m) (by rw [← Htl.out]; omega) w
              have hsx : splitF tx = linesL (tx.take m) := by rw [split_chop, chop_lf hlm hb]
              obtain ⟨cx, hcx⟩ : ∃ cx, cx = tx.take m := ⟨_, rfl⟩
              rw [← hcx] at hcu hsx
              have hcl : cx.length ≤ 10000 := by rw [hcx, List.length_take, ← Htl.out]; omega
              clear hb hcx hlm
              have C7 := Lib.hid (tsplit (l := tx) (by rw [← Htl.out]; omega) HM.out H6.out)
              have Htx := Lib.hid hsx
              clear hsx
              go_wp2_with fail
              refine C7.out.mono ?_
              rintro e w7 ⟨b7, rfl, h7⟩
              have C8 := Lib.hid (lawsplit (l := cx) (by exact hcl) h7)
              clear h7 C7
              go_wp2_with fail
              refine C8.out.mono ?_
              rintro e w8 ⟨⟨x8, y8⟩, rfl, h8⟩
              have C9 := Lib.hid (hstrings (va := .slice (some ⟨b7, 0, none⟩) (splitN tx) (linesL tx).length) (vb := .slice x8 (linesL cx).length y8) (A := linesL (cx)) h8 (split_rd2 Htx.out (List.mem_cons_of_mem _ List.mem_cons_self)) (Reads.row (e := 9) List.mem_cons_self))
              clear h8 C8
              go_wp2_with fail
              refine C9.out.mono ?_
              rintro e w9 ⟨rfl, h9⟩
              have H9 := Lib.hid h9
              clear h9 C9
              go_wp2_with fail
              go_ret
              exact ⟨rfl, H9.out.below⟩
            · have hbz : ((b.toNat : Int) == 10) = false := beq_eq_false_iff_ne.2 (fun h => hb10 (by apply UInt8.toNat_inj.1; show b.toNat = 10; omega))
              have hsx : splitF tx = linesL tx := by rw [split_chop, chop_no hlm hb hb10]
              obtain ⟨bv, hbv⟩ : ∃ bv, (b.toNat : Int) = bv := ⟨_, rfl⟩
              rw [hbv] at hat hbz
              clear hb hb10 hbv hlm
              have C7 := Lib.hid (tsplit (l := tx) (by rw [← Htl.out]; omega) HM.out H6.out)
              have Htx := Lib.hid hsx
              clear hsx
              go_wp2_with fail
              refine C7.out.mono ?_
              rintro e w7 ⟨b7, rfl, h7⟩
              have C8 := Lib.hid (lawsplit (l := tx) (by rw [← Htl.out]; omega) h7)
              clear h7 C7
              go_wp2_with fail
              refine C8.out.mono ?_
              rintro e w8 ⟨⟨x8, y8⟩, rfl, h8⟩
              have C9 := Lib.hid (hstrings (va := .slice (some ⟨b7, 0, none⟩) (splitN tx) (linesL tx).length) (vb := .slice x8 (linesL tx).length y8) (A := linesL (tx)) h8 (split_rd2 Htx.out (List.mem_cons_of_mem _ List.mem_cons_self)) (Reads.row (e := 9) List.mem_cons_self))
              clear h8 C8
              go_wp2_with fail
              refine C9.out.mono ?_
              rintro e w9 ⟨rfl, h9⟩
              have H9 := Lib.hid h9
              clear h9 C9
              go_wp2_with fail
              go_ret
              exact ⟨rfl, H9.out.below⟩
end Go.Proofs.YtcdoomlagmddcaaGreatDoor
