/- The law PiecePlays on values that read. -/
import Derived.Test.YtdlcmehopnhmgaaCG
import Derived.Test.YtdlcmehopnhmgaaRead
import Derived.Test.YtdlcmehopnhmgaaHeld
namespace Go.Proofs.Ytdlcmehopnhmgaa
open Go Go.RowKit Go.Fol
attribute [local go_sem ↓] Go.wp_at_zero Go.wp_at_succ
attribute [-go_sem] Go.run_string_add_if
set_option linter.unusedVariables false
set_option linter.unusedSimpArgs false
theorem TbI.more2 {T : Tb} {tx : List UInt8} {ed ad ad' : Nat} {most : Int} (h : TbI T tx ed most ad) (ha : ad ≤ ad') : TbI T tx ed most ad' := ⟨h.ok, h.htx, h.hed, h.hmost, Nat.le_trans h.had ha, h.len⟩
theorem keep1 {w0 w : World} {A : Asrt} {R : List Asrt} (H : Owns w0 w (A :: R)) : Owns w0 w [A] := H.mem List.mem_cons_self
theorem act_of {w : World} {es : List Value} (hl : es.length = 4) (h : Rd Try.prog w 42 es) :
    ∃ (a i n : Int) (s : ByteArray), es = [.int .u8 a, .int .i64 i, .int .i64 n, .string s] ∧ (0 ≤ a ∧ a ≤ 255) ∧ (-9223372036854775808 ≤ i ∧ i ≤ 9223372036854775807) ∧ (-9223372036854775808 ≤ n ∧ n ≤ 9223372036854775807) := by
  obtain ⟨e0, e1, e2, e3, rfl⟩ : ∃ e0 e1 e2 e3, es = [e0, e1, e2, e3] := by
    match es, hl with
    | [a, b, c, d], _ => exact ⟨a, b, c, d, rfl⟩
  have hs := (rd_struct Try.underlying42 h).2
  obtain ⟨a, ha, wa⟩ := rd_int Try.underlying5 (hs 0 _ rfl)
  obtain ⟨i, hi, wi⟩ := rd_int Try.underlying3 (hs 1 _ rfl)
  obtain ⟨n, hn, wn⟩ := rd_int Try.underlying3 (hs 2 _ rfl)
  obtain ⟨x, hx, _⟩ := rd_string Try.underlying9 (hs 3 _ rfl)
  have ha : [e0] = [.int .u8 a] := ha
  have hi : [e1] = [.int .i64 i] := hi
  have hn : [e2] = [.int .i64 n] := hn
  have hx : [e3] = [.string x] := hx
  cases ha; cases hi; cases hn; cases hx
  exact ⟨a, i, n, x, rfl, wf_u8 wa, wf_i64 wi, wf_i64 wn⟩
set_option maxHeartbeats 2000000 in
set_option maxRecDepth 100000 in
theorem piecePlays_walk (w : World) (v0 v1 v2 : Value) (a0 : Arg Try.prog w 9 v0) (a1 : Arg Try.prog w 3 v1) (a2 : Arg Try.prog w 40 v2) :
    Calls Try.prog 6 #[v0, v1, v2] w fun e w' => e = .returned (.bool true) ∧ Below w.heap.size w w' := by
  obtain ⟨s0, rfl, hs0⟩ := arg_string Try.underlying9 a0
  obtain ⟨mo, rfl, hmo⟩ := arg_int Try.underlying3 a1
  obtain ⟨hmo0, hmo1⟩ := wf_i64 hmo
  obtain ⟨ca, c, cc, rfl, _, hcc, hcm, _, hrow⟩ := arg_slice (k := 4) Try.underlying40 (by kernel_rfl) (by decide) a2
  have hc63 : c ≤ 9223372036854775807 := by unfold maxLen at hcm; omega
  obtain ⟨f, rfl⟩ : ∃ f, s0 = bstr f := ⟨s0.data.toList, (bstr_toList s0).symm⟩
  have hfz := bstr_size f
  rw [hfz] at hs0
  have Hrow := Lib.hid hrow
  clear a0 a1 a2 hrow hcm hmo
  go_enter Try.func6, Try.ntmps6
  go_wp2_with fail
  refine (known_true (Owns.start w)).mono ?_
  rintro e w1 ⟨rfl, h1⟩
  have H1 := Lib.hid h1
  clear h1
  by_cases hf1 : 200 < (f.length : Int)
  · go_wp2_with fail
    go_ret
    exact ⟨rfl, H1.out.below⟩
  have hf1' : decide (200 < (f.length : Int)) = false := by simpa using hf1
  by_cases hc1 : 40 < (c : Int)
  · go_wp2_with fail
    go_ret
    exact ⟨rfl, H1.out.below⟩
  have hc1' : decide (40 < (c : Int)) = false := by simpa using hc1
  have hf2 : f.length ≤ 200 := by omega
  have hc2 : c ≤ 40 := by omega
  obtain ⟨m, hm⟩ : ∃ m, mo.tmod 400 = m := ⟨_, rfl⟩
  have hm1 := Int.lt_tmod_of_pos mo (show (0 : Int) < 400 by decide)
  have hm2 := Int.tmod_lt_of_pos mo (show (0 : Int) < 400 by decide)
  rw [hm] at hm1 hm2
  have hwm : IntKind.i64.wrap m = m := by rw [IntKind.wrap_i64]; omega
  by_cases hfit : m < (f.length : Int)
  · have hnew := cnew_full m H1.out hfit
    have Hnew := Lib.hid hnew
    clear hnew
    go_wp2_with fail
    refine Hnew.out.mono ?_
    rintro e w2 ⟨rfl, h2⟩
    have H2 := Lib.hid h2
    clear h2 Hnew H1
    go_wp2_with fail
    go_ret
    exact ⟨rfl, H2.out.below⟩
  have hfit' : decide (m < (f.length : Int)) = false := by simpa using hfit
  have hfm : (f.length : Int) ≤ m := by omega
  have hnew := cnew m H1.out hfm (by omega)
  have Hnew := Lib.hid hnew
  clear hnew
  go_wp2_with fail
  clear hm
  refine Hnew.out.mono ?_
  rintro e w2 ⟨p, rfl, h2⟩
  have HI0 := Lib.hid (TbI.new (f := f) (most := m) (by omega) ⟨by omega, by omega⟩)
  have H2 := Lib.hid h2
  clear h2 H1 Hnew
  clear hfit hfit'
  go_wp2_with fail
  go_loopw [9, 10, 11] (fun wv ev q wr => ∃ (j e : Nat) (T : Tb) (tx : List UInt8), j ≤ c ∧ q = .int .i64 j ∧ wv = .string (bstr tx) ∧ ev = .int .i64 e ∧ e ≤ j ∧ (tx.length : Int) ≤ m ∧ TbI T tx e m (60 * j) ∧ Owns w wr [tabA p T]) (fun _ _ q _ => c - (intOf q).toNat)
  case atStart => exact ⟨0, 0, _, f, Nat.zero_le _, rfl, rfl, rfl, Nat.le_refl _, hfm, HI0.out, H2.out⟩
  case round =>
    obtain ⟨j, e, T, tx, hj, rfl, rfl, rfl, hej, htm, hI, h4⟩ := hrel
    have H4 := Lib.hid h4
    have HI := Lib.hid hI
    have htz := bstr_size tx
    clear h4 hI H2 HI0
    by_cases hlt : j < c
    · obtain ⟨b, off, rfl, hbl, hel⟩ := Hrow.out (by omega)
      obtain ⟨es, hes, hrd, hce⟩ := hel j hlt
      obtain ⟨a, ii, nn, y, rfl, ha, hii, hnn⟩ := act_of hes hrd
      obtain ⟨s, rfl⟩ : ∃ s, y = bstr s := ⟨y.data.toList, (bstr_toList y).symm⟩
      have hsz := bstr_size s
      have k0 := H4.out.chg.cell (hce 0 _ rfl) (by simp)
      have k1 := H4.out.chg.cell (hce 1 _ rfl) (by simp)
      have k2 := H4.out.chg.cell (hce 2 _ rfl) (by simp)
      have k3 := H4.out.chg.cell (hce 3 _ rfl) (by simp)
      simp only [Nat.add_zero] at k0
      obtain ⟨C, hC⟩ : ∃ C, C = wr.heap.size := ⟨_, rfl⟩
      obtain ⟨W5, hW5⟩ : ∃ W5, wr.alloc (.cells #[.int .u8 a, .int .i64 ii, .int .i64 nn, .string (bstr s)] 42) = W5 := ⟨_, rfl⟩
      have h5 := (H4.out.alloc #[.int .u8 a, .int .i64 ii, .int .i64 nn, .string (bstr s)] 42).p1
      rw [hW5, ← hC] at h5
      have z0 : W5.cell? ⟨C, 0, none⟩ = some (.int .u8 a) := h5.p1.cell (j := 0) rfl
      have z1 : W5.cell? ⟨C, 1, none⟩ = some (.int .i64 ii) := h5.p1.cell (j := 1) rfl
      have z2 : W5.cell? ⟨C, 2, none⟩ = some (.int .i64 nn) := h5.p1.cell (j := 2) rfl
      have z3 : W5.cell? ⟨C, 3, none⟩ = some (.string (bstr s)) := h5.p1.cell (j := 3) rfl
      have H5 := Lib.hid h5
      have K0 := Lib.hid hC
      have HW5 := Lib.hid hW5
      have HC := Lib.hid hC
      have ha0 : 0 ≤ a := ha.1
      have hlt' : (j : Int) < (c : Int) := by omega
      have hwj : IntKind.i64.wrap ((j : Int) + 1) = (j : Int) + 1 := by rw [IntKind.wrap_i64]; omega
      have hwe : IntKind.i64.wrap ((e : Int) + 1) = (e : Int) + 1 := by rw [IntKind.wrap_i64]; omega
      clear hrd hce hes hel hbl h5 H4 hW5 hC
      go_upto_region 16 with (fail)
      rw [HW5.out, ← HC.out]
      clear HW5 HC k0 k1 k2 k3
      by_cases hs60 : 60 < (s.length : Int)
      · go_wp2_with fail
        go_ret
        exact ⟨rfl, H5.out.below⟩
      have hs60' : decide (60 < (s.length : Int)) = false := by simpa using hs60
      obtain ⟨a3, ha3⟩ : ∃ a3, a.tmod 3 = a3 := ⟨_, rfl⟩
      have ha3b : 0 ≤ a3 ∧ a3 < 3 := by rw [← ha3]; exact ⟨Int.tmod_nonneg 3 ha0, Int.tmod_lt_of_pos a (by omega)⟩
      obtain ⟨ha3l, ha3h⟩ := ha3b
      have hw8 : IntKind.u8.wrap a3 = a3 := by unfold IntKind.wrap; simp [IntKind.bits, IntKind.signed]; omega
      have hws : IntKind.i64.wrap ((tx.length : Int) + s.length) = (tx.length : Int) + s.length := by rw [IntKind.wrap_i64]; omega
      by_cases hkind : a3 < 2
      · by_cases n1 : ii < 0
        · have hop := ins_place (s := s) ii H5.out HI.out (.inl n1)
          have Hop := Lib.hid hop
          clear hop H5 K0
          go_wp2_with fail
          refine Hop.out.mono ?_
          rintro e6 w6 ⟨rfl, h6⟩
          have H6 := Lib.hid h6
          clear h6 Hop
          have hwh := whole_I (H6.out) HI.out
          have Hwh := Lib.hid hwh
          clear hwh
          go_wp2_with fail
          refine Hwh.out.mono ?_
          rintro e9 w9 ⟨rfl, h9⟩
          have H9 := Lib.hid (keep1 h9)
          clear h9 Hwh
          go_wp2_with fail
          go_roundw
          case rel => exact ⟨j + 1, e, T, tx, by omega, by go_num, rfl, rfl, by omega, htm, HI.out.more2 (by omega), H9.out⟩
          case measure => simp [intOf]; omega
        have n1' : decide (ii < 0) = false := by simpa using n1
        by_cases n2 : (tx.length : Int) < ii
        · have hop := ins_place (s := s) ii H5.out HI.out (.inr n2)
          have Hop := Lib.hid hop
          clear hop H5 K0
          go_wp2_with fail
          refine Hop.out.mono ?_
          rintro e6 w6 ⟨rfl, h6⟩
          have H6 := Lib.hid h6
          clear h6 Hop
          have hwh := whole_I (H6.out) HI.out
          have Hwh := Lib.hid hwh
          clear hwh
          go_wp2_with fail
          refine Hwh.out.mono ?_
          rintro e9 w9 ⟨rfl, h9⟩
          have H9 := Lib.hid (keep1 h9)
          clear h9 Hwh
          go_wp2_with fail
          go_roundw
          case rel => exact ⟨j + 1, e, T, tx, by omega, by go_num, rfl, rfl, by omega, htm, HI.out.more2 (by omega), H9.out⟩
          case measure => simp [intOf]; omega
        have n2' : decide ((tx.length : Int) < ii) = false := by simpa using n2
        obtain ⟨o, rfl⟩ : ∃ o : Nat, ii = (o : Int) := ⟨ii.toNat, by omega⟩
        have ho1 : o ≤ tx.length := by omega
        by_cases n3 : m < (tx.length : Int) + s.length
        · have hop := ins_full (s := s) o H5.out HI.out ho1 (by omega)
          have Hop := Lib.hid hop
          clear hop H5 K0
          go_wp2_with fail
          refine Hop.out.mono ?_
          rintro e6 w6 ⟨rfl, h6⟩
          have H6 := Lib.hid h6
          clear h6 Hop
          have hwh := whole_I (H6.out) HI.out
          have Hwh := Lib.hid hwh
          clear hwh
          go_wp2_with fail
          refine Hwh.out.mono ?_
          rintro e9 w9 ⟨rfl, h9⟩
          have H9 := Lib.hid (keep1 h9)
          clear h9 Hwh
          go_wp2_with fail
          go_roundw
          case rel => exact ⟨j + 1, e, T, tx, by omega, by go_num, rfl, rfl, by omega, htm, HI.out.more2 (by omega), H9.out⟩
          case measure => simp [intOf]; omega
        have n3' : decide (m < (tx.length : Int) + s.length) = false := by simpa using n3
        have hop := ins_I (s := s) o H5.out HI.out ho1 (by omega) (by omega) (by omega)
        obtain ⟨t1, ht1⟩ : ∃ t1, t1 = tx.take o ++ s := ⟨_, rfl⟩
        obtain ⟨t2, ht2⟩ : ∃ t2, t2 = t1 ++ tx.drop o := ⟨_, rfl⟩
        have ht2l : t2.length = tx.length + s.length := by rw [ht2, ht1]; simp; omega
        have ht2m : (t2.length : Int) ≤ m := by omega
        have c1 := run_cat (a := tx.take o) (b := s) (by simp; omega)
        have hsame : s = [] → t2 = tx := by intro h; rw [ht2, ht1, h]; simp
        rw [← ht1] at c1 hop
        have c2 := run_cat (a := t1) (b := tx.drop o) (by rw [ht1]; simp; omega)
        rw [← ht2] at c2 hop
        have e1 := ext_pre tx o
        have e2 := ext_suf (f := tx) (k := o) rfl
        have hol : (o : Int) ≤ (tx.length : Int) := by omega
        have hwo : IntKind.i64.wrap (o : Int) = (o : Int) := by rw [IntKind.wrap_i64]; omega
        have Hop := Lib.hid hop
        have Hsame := Lib.hid hsame
        clear hop H5 K0 ht1 ht2 hsame
        go_wp2_with fail
        refine Hop.out.mono ?_
        rintro e6 w6 ⟨T', rfl, h6⟩
        obtain ⟨hI', h6⟩ := h6.pureE
        have q1 : w6.cell? ⟨C, 1, none⟩ = some (.int .i64 (o : Int)) := h6.p1.cell (j := 1) rfl
        have q3 : w6.cell? ⟨C, 3, none⟩ = some (.string (bstr s)) := h6.p1.cell (j := 3) rfl
        have H6 := Lib.hid h6
        by_cases hs0 : s = []
        · rw [if_pos hs0, Hsame.out hs0, Nat.add_zero] at hI'
          have HI' := Lib.hid hI'
          have hb2 : (bstr s).toList = [] := by rw [bstr_toL, hs0]
          have hb1 : (bstr s).toList.isEmpty = true := by rw [hb2]; rfl
          clear hs0 h6 hI' Hop c1 c2 e1 e2 Hsame
          have hwh := whole_I (H6.out) HI'.out
          have Hwh := Lib.hid hwh
          clear hwh
          go_wp2_with fail
          refine Hwh.out.mono ?_
          rintro e9 w9 ⟨rfl, h9⟩
          have H9 := Lib.hid (keep1 h9)
          clear h9 Hwh
          go_wp2_with fail
          go_roundw
          case rel => exact ⟨j + 1, e, T', tx, by omega, by go_num, rfl, rfl, by omega, htm, HI'.out.more2 (by omega), H9.out⟩
          case measure => simp [intOf]; omega
        · rw [if_neg hs0] at hI'
          have HI' := Lib.hid hI'
          obtain ⟨hb1, hb2⟩ := bstr_ne hs0
          clear h6 hI' Hop Hsame
          go_wp2_with fail
          go_quiet (fail)
          have hwh := whole_I (H6.out.drewN nq) HI'.out
          rw [show ((e + 1 : Nat) : Int) = (e : Int) + 1 by omega] at hwh
          have Hwh := Lib.hid hwh
          clear hwh
          go_wp2_with fail
          refine Hwh.out.mono ?_
          rintro e9 w9 ⟨rfl, h9⟩
          have H9 := Lib.hid (keep1 h9)
          clear h9 Hwh
          go_wp2_with fail
          go_roundw
          case rel => exact ⟨j + 1, e + 1, T', t2, by omega, by go_num, rfl, by go_num, by omega, ht2m, HI'.out.more2 (by omega), H9.out⟩
          case measure => simp [intOf]; omega
      · have hkind' : decide (a3 < 2) = false := by simpa using hkind
        by_cases n1 : ii < 0
        · have hop := del_out ii nn H5.out HI.out (by omega)
          have Hop := Lib.hid hop
          clear hop H5 K0
          go_wp2_with fail
          refine Hop.out.mono ?_
          rintro e6 w6 ⟨rfl, h6⟩
          have H6 := Lib.hid h6
          clear h6 Hop
          have hwh := whole_I (H6.out) HI.out
          have Hwh := Lib.hid hwh
          clear hwh
          go_wp2_with fail
          refine Hwh.out.mono ?_
          rintro e9 w9 ⟨rfl, h9⟩
          have H9 := Lib.hid (keep1 h9)
          clear h9 Hwh
          go_wp2_with fail
          go_roundw
          case rel => exact ⟨j + 1, e, T, tx, by omega, by go_num, rfl, rfl, by omega, htm, HI.out.more2 (by omega), H9.out⟩
          case measure => simp [intOf]; omega
        have n1' : decide (ii < 0) = false := by simpa using n1
        by_cases n2 : nn < 0
        · have hop := del_out ii nn H5.out HI.out (by omega)
          have Hop := Lib.hid hop
          clear hop H5 K0
          go_wp2_with fail
          refine Hop.out.mono ?_
          rintro e6 w6 ⟨rfl, h6⟩
          have H6 := Lib.hid h6
          clear h6 Hop
          have hwh := whole_I (H6.out) HI.out
          have Hwh := Lib.hid hwh
          clear hwh
          go_wp2_with fail
          refine Hwh.out.mono ?_
          rintro e9 w9 ⟨rfl, h9⟩
          have H9 := Lib.hid (keep1 h9)
          clear h9 Hwh
          go_wp2_with fail
          go_roundw
          case rel => exact ⟨j + 1, e, T, tx, by omega, by go_num, rfl, rfl, by omega, htm, HI.out.more2 (by omega), H9.out⟩
          case measure => simp [intOf]; omega
        have n2' : decide (nn < 0) = false := by simpa using n2
        by_cases n3 : (tx.length : Int) < ii
        · have hop := del_out ii nn H5.out HI.out (by omega)
          have Hop := Lib.hid hop
          clear hop H5 K0
          go_wp2_with fail
          refine Hop.out.mono ?_
          rintro e6 w6 ⟨rfl, h6⟩
          have H6 := Lib.hid h6
          clear h6 Hop
          have hwh := whole_I (H6.out) HI.out
          have Hwh := Lib.hid hwh
          clear hwh
          go_wp2_with fail
          refine Hwh.out.mono ?_
          rintro e9 w9 ⟨rfl, h9⟩
          have H9 := Lib.hid (keep1 h9)
          clear h9 Hwh
          go_wp2_with fail
          go_roundw
          case rel => exact ⟨j + 1, e, T, tx, by omega, by go_num, rfl, rfl, by omega, htm, HI.out.more2 (by omega), H9.out⟩
          case measure => simp [intOf]; omega
        have n3' : decide ((tx.length : Int) < ii) = false := by simpa using n3
        have hwd : IntKind.i64.wrap ((tx.length : Int) - ii) = (tx.length : Int) - ii := by rw [IntKind.wrap_i64]; omega
        by_cases n4 : (tx.length : Int) - ii < nn
        · have hop := del_out ii nn H5.out HI.out (by omega)
          have Hop := Lib.hid hop
          clear hop H5 K0
          go_wp2_with fail
          refine Hop.out.mono ?_
          rintro e6 w6 ⟨rfl, h6⟩
          have H6 := Lib.hid h6
          clear h6 Hop
          have hwh := whole_I (H6.out) HI.out
          have Hwh := Lib.hid hwh
          clear hwh
          go_wp2_with fail
          refine Hwh.out.mono ?_
          rintro e9 w9 ⟨rfl, h9⟩
          have H9 := Lib.hid (keep1 h9)
          clear h9 Hwh
          go_wp2_with fail
          go_roundw
          case rel => exact ⟨j + 1, e, T, tx, by omega, by go_num, rfl, rfl, by omega, htm, HI.out.more2 (by omega), H9.out⟩
          case measure => simp [intOf]; omega
        have n4' : decide ((tx.length : Int) - ii < nn) = false := by simpa using n4
        obtain ⟨o, rfl⟩ : ∃ o : Nat, ii = (o : Int) := ⟨ii.toNat, by omega⟩
        obtain ⟨k, rfl⟩ : ∃ k : Nat, nn = (k : Int) := ⟨nn.toNat, by omega⟩
        have hok : o + k ≤ tx.length := by omega
        have hop := del_I o k H5.out HI.out hok (by omega)
        obtain ⟨t2, ht2⟩ : ∃ t2, t2 = tx.take o ++ tx.drop (o + k) := ⟨_, rfl⟩
        have ht2m : (t2.length : Int) ≤ m := by rw [ht2]; simp; omega
        have hsame : k = 0 → t2 = tx := by intro h; rw [ht2, h]; simp
        have c1 := run_cat (a := tx.take o) (b := tx.drop (o + k)) (by simp; omega)
        rw [← ht2] at c1 hop
        have e1 := ext_pre tx o
        have e2 := ext_suf (f := tx) (k := o + k) rfl
        have hol : (o : Int) ≤ (tx.length : Int) := by omega
        have hokl : (o : Int) + k ≤ (tx.length : Int) := by omega
        have h0ok : (0 : Int) ≤ (o : Int) + k := by omega
        have htn : ((o : Int) + k).toNat = o + k := by omega
        have hwo : IntKind.i64.wrap (o : Int) = (o : Int) := by rw [IntKind.wrap_i64]; omega
        have hwok : IntKind.i64.wrap ((o : Int) + k) = (o : Int) + k := by rw [IntKind.wrap_i64]; omega
        have Hop := Lib.hid hop
        have Hsame := Lib.hid hsame
        clear hop H5 K0 ht2 hsame
        go_wp2_with fail
        refine Hop.out.mono ?_
        rintro e6 w6 ⟨T', rfl, h6⟩
        obtain ⟨hI', h6⟩ := h6.pureE
        have q1 : w6.cell? ⟨C, 1, none⟩ = some (.int .i64 (o : Int)) := h6.p1.cell (j := 1) rfl
        have q2 : w6.cell? ⟨C, 2, none⟩ = some (.int .i64 (k : Int)) := h6.p1.cell (j := 2) rfl
        have H6 := Lib.hid h6
        by_cases hk0 : k = 0
        · rw [if_pos hk0, Hsame.out hk0, Nat.add_zero] at hI'
          have HI' := Lib.hid hI'
          clear h6 hI' Hop c1 e1 e2 Hsame
          have hwh := whole_I (H6.out) HI'.out
          have Hwh := Lib.hid hwh
          clear hwh
          go_wp2_with fail
          refine Hwh.out.mono ?_
          rintro e9 w9 ⟨rfl, h9⟩
          have H9 := Lib.hid (keep1 h9)
          clear h9 Hwh
          go_wp2_with fail
          go_roundw
          case rel => exact ⟨j + 1, e, T', tx, by omega, by go_num, rfl, rfl, by omega, htm, HI'.out.more2 (by omega), H9.out⟩
          case measure => simp [intOf]; omega
        · rw [if_neg hk0] at hI'
          have HI' := Lib.hid hI'
          have hk0' : (0 : Int) < (k : Int) := by omega
          clear h6 hI' Hop Hsame
          go_wp2_with fail
          go_quiet (fail)
          have hwh := whole_I (H6.out.drewN nq) HI'.out
          rw [show ((e + 1 : Nat) : Int) = (e : Int) + 1 by omega] at hwh
          have Hwh := Lib.hid hwh
          clear hwh
          go_wp2_with fail
          refine Hwh.out.mono ?_
          rintro e9 w9 ⟨rfl, h9⟩
          have H9 := Lib.hid (keep1 h9)
          clear h9 Hwh
          go_wp2_with fail
          go_roundw
          case rel => exact ⟨j + 1, e + 1, T', t2, by omega, by go_num, rfl, by go_num, by omega, ht2m, HI'.out.more2 (by omega), H9.out⟩
          case measure => simp [intOf]; omega
    · have hlt' : ¬ ((j : Int) < (c : Int)) := by omega
      have hwh := whole_I H4.out HI.out
      have Hwh := Lib.hid hwh
      clear hwh
      go_wp2_with fail
      refine Hwh.out.mono ?_
      rintro e9 w9 ⟨rfl, h9⟩
      have H9 := Lib.hid h9
      clear h9 Hwh
      go_wp2_with fail
      go_ret
      exact ⟨rfl, H9.out.below⟩
end Go.Proofs.Ytdlcmehopnhmgaa
