/- The law PieceCuts on values that read. -/
import Derived.Test.YtdlcmehopnhmgaaCG
import Derived.Test.YtdlcmehopnhmgaaRead
import Derived.Test.YtdlcmehopnhmgaaHeld
namespace Go.Proofs.Ytdlcmehopnhmgaa
open Go Go.RowKit Go.Fol
attribute [local go_sem ↓] Go.wp_at_zero Go.wp_at_succ
attribute [-go_sem] Go.run_string_add_if
set_option linter.unusedVariables false
set_option linter.unusedSimpArgs false
theorem wf_u16 {x : Int} (h : (Lit.int .u16 x).wf = true) : 0 ≤ x ∧ x ≤ 65535 := by simpa [Lit.wf, IntKind.min, IntKind.max, IntKind.signed, IntKind.bits] using h
theorem TbI.more {T : Tb} {tx : List UInt8} {ed ad ad' : Nat} {most : Int} (h : TbI T tx ed most ad) (ha : ad ≤ ad') : TbI T tx ed most ad' := ⟨h.ok, h.htx, h.hed, h.hmost, Nat.le_trans h.had ha, h.len⟩
theorem cuts_at {i t n : Nat} (hi : i ≤ n) : ((i * t : Nat) : Int).tdiv ((n : Int) + 1) = ((i * t / (n + 1) : Nat) : Int) ∧ i * t / (n + 1) ≤ t := by
  refine ⟨rfl, Nat.div_le_of_le_mul ?_⟩
  exact Nat.mul_le_mul_right t (by omega)
set_option maxHeartbeats 1000000 in
set_option maxRecDepth 100000 in
theorem pieceCuts_walk (w : World) (v0 v1 v2 : Value) (a0 : Arg Try.prog w 35 v0) (a1 : Arg Try.prog w 46 v1) (a2 : Arg Try.prog w 46 v2) :
    Calls Try.prog 8 #[v0, v1, v2] w fun e w' => e = .returned (.bool true) ∧ Below w.heap.size w w' := by
  obtain ⟨l, hl, hlb, _⟩ := arg_strs Try.underlying35 Try.underlying9 (by kernel_rfl) (by kernel_rfl) a0
  obtain ⟨of, rfl, hof⟩ := arg_int Try.underlying46 a1
  obtain ⟨nn, rfl, hnn⟩ := arg_int Try.underlying46 a2
  obtain ⟨hof0, hof1⟩ := wf_u16 hof
  obtain ⟨hnn0, hnn1⟩ := wf_u16 hnn
  obtain ⟨n, hn⟩ : ∃ n, n = l.length := ⟨_, rfl⟩
  rw [← hn] at hl hlb
  obtain ⟨la, lc, rfl⟩ := hl.form
  have Hl := Lib.hid hl
  have Hn := Lib.hid hn
  clear a0 a1 a2 hof hnn hl hn
  go_enter Try.func8, Try.ntmps8
  go_wp2_with fail
  refine (known_true (Owns.start w)).mono ?_
  rintro e w1 ⟨rfl, h1⟩
  have H1 := Lib.hid h1
  clear h1
  by_cases hbig : 15 < (n : Int)
  · go_wp2_with fail
    go_ret
    exact ⟨rfl, H1.out.below⟩
  have hbig' : decide (15 < (n : Int)) = false := by simpa using hbig
  have hn15 : n ≤ 15 := by omega
  go_wp2_with fail
  refine (cnew' (f := []) rfl 2000 H1.out (by decide) (by decide)).mono ?_
  rintro e w2 ⟨p, rfl, h2⟩
  have H2 := Lib.hid h2
  have HI0 := Lib.hid (TbI.new (f := []) (most := 2000) (by decide) (by decide))
  clear h2 H1
  go_wp2_with fail
  go_loopw [9, 10, 11] (fun wv ev q wr => ∃ (i e : Nat) (T : Tb) (tx : List UInt8), i ≤ n ∧ q = .int .i64 i ∧ wv = .string (bstr tx) ∧ ev = .int .i64 e ∧ e ≤ i ∧ tx.length ≤ 40 * i ∧ TbI T tx e 2000 (40 * i) ∧ Owns w wr [tabA p T]) (fun _ _ q _ => n - (intOf q).toNat)
  case atStart => exact ⟨0, 0, _, [], Nat.zero_le _, rfl, rfl, rfl, Nat.le_refl _, by simp, HI0.out, H2.out⟩
  case round =>
    obtain ⟨i, e, T, tx, hi, rfl, rfl, rfl, hei, htl, hI, h3⟩ := hrel
    have H3 := Lib.hid h3
    have HI := Lib.hid hI
    have htz := bstr_size tx
    clear h3 hI H2 HI0
    by_cases hlt : i < n
    · obtain ⟨x, hx⟩ : ∃ x, l[i]? = some x := ⟨_, List.getElem?_eq_getElem (by have := Hn.out; omega)⟩
      obtain ⟨s, rfl⟩ : ∃ s, x = bstr s := ⟨x.data.toList, (bstr_toList x).symm⟩
      have hsx : (strs l)[i]? = some (.string (bstr s)) := by simp [strs, hx]
      obtain ⟨lb, lo, c', el, hnc, _, hcell0⟩ := (Hl.out.keep H3.out.chg (by simp)).cells (by omega) (by decide)
      cases el
      have hc3 := hcell0 i _ hsx
      have hsz := bstr_size s
      have hlt' : (i : Int) < (n : Int) := by omega
      have Hsx := Lib.hid hsx
      clear hcell0 hsx hx
      by_cases hs40 : 40 < (s.length : Int)
      · go_wp2_with fail
        go_ret
        exact ⟨rfl, H3.out.below⟩
      have hs40' : decide (40 < (s.length : Int)) = false := by simpa using hs40
      obtain ⟨hk, hkt⟩ := cuts_at (t := tx.length) hi
      obtain ⟨k, hkk⟩ : ∃ k, k = i * tx.length / (n + 1) := ⟨_, rfl⟩
      obtain ⟨P, hPP⟩ : ∃ P, P = i * tx.length := ⟨_, rfl⟩
      have hPb : P ≤ 15 * 600 := by rw [hPP]; exact Nat.mul_le_mul (by omega) (by omega)
      rw [← hkk, ← hPP] at hk
      rw [← hkk] at hkt
      have hP : (i : Int) * (tx.length : Int) = (P : Int) := by rw [hPP, Int.natCast_mul]
      have hwP : IntKind.i64.wrap (P : Int) = (P : Int) := by rw [IntKind.wrap_i64]; omega
      have hwD : IntKind.i64.wrap ((n : Int) + 1) = (n : Int) + 1 := by rw [IntKind.wrap_i64]; omega
      have hne : ((n : Int) + 1 == 0) = false := by simp; omega
      have hwk : IntKind.i64.wrap (k : Int) = (k : Int) := by rw [IntKind.wrap_i64]; omega
      have hin := ins_I (s := s) k H3.out HI.out hkt (by omega) (by omega) (by omega)
      obtain ⟨t1, ht1⟩ : ∃ t1, t1 = tx.take k ++ s := ⟨_, rfl⟩
      obtain ⟨t2, ht2⟩ : ∃ t2, t2 = t1 ++ tx.drop k := ⟨_, rfl⟩
      have ht2l : t2.length = tx.length + s.length := by rw [ht2, ht1]; simp; omega
      have c1 := run_cat (a := tx.take k) (b := s) (by simp; omega)
      rw [← ht1] at c1 hin
      have c2 := run_cat (a := t1) (b := tx.drop k) (by rw [ht1]; simp; omega)
      rw [← ht2] at c2 hin
      have e1 := ext_pre tx k
      have e2 := ext_suf (f := tx) (k := k) rfl
      have Hin := Lib.hid hin
      have hkl : (k : Int) ≤ (tx.length : Int) := by omega
      clear hin H3 HI hkk hPP ht1 ht2 hkt
      go_wp2_with fail
      refine Hin.out.mono ?_
      rintro e4 w4 ⟨T', rfl, h4⟩
      obtain ⟨hI', h4⟩ := h4.pureE
      obtain ⟨lb', lo', c'', el, _, _, hcell0⟩ := (Hl.out.keep h4.chg (by simp)).cells (by omega) (by decide)
      cases el
      have hc4 := hcell0 i _ Hsx.out
      have hc5 : ∀ q, (w4.drewN q).cell? ⟨lb, lo + i, none⟩ = some (.string (bstr s)) := fun q => hc4
      have H4 := Lib.hid h4
      have HI' := Lib.hid hI'
      have hwe : IntKind.i64.wrap ((e : Int) + 1) = (e : Int) + 1 := by rw [IntKind.wrap_i64]; omega
      have hwi : IntKind.i64.wrap ((i : Int) + 1) = (i : Int) + 1 := by rw [IntKind.wrap_i64]; omega
      clear h4 hI' hcell0 Hin Hsx hc3 hP hwP
      go_wp2_with fail
      go_quiet (fail)
      by_cases hs0 : s = []
      · have hb2 : (bstr s).toList = [] := by rw [bstr_toL, hs0]
        have hb1 : (bstr s).toList.isEmpty = true := by rw [hb2]; rfl
        rw [if_pos hs0] at HI'
        clear hs0
        go_wp2_with fail
        go_roundw
        case rel => exact ⟨i + 1, e, T', t2, by omega, by go_num, rfl, rfl, by omega, by rw [ht2l]; omega, HI'.out.more (by omega), H4.out.drewN _⟩
        case measure => simp [intOf]; omega
      · obtain ⟨hb1, hb2⟩ := bstr_ne hs0
        rw [if_neg hs0] at HI'
        go_wp2_with fail
        go_roundw
        case rel => exact ⟨i + 1, e + 1, T', t2, by omega, by go_num, rfl, by go_num, by omega, by rw [ht2l]; omega, HI'.out.more (by omega), H4.out.drewN _⟩
        case measure => simp [intOf]; omega
    · have hlt' : ¬ ((i : Int) < (n : Int)) := by omega
      have htl2 : tx.length ≤ 600 := by omega
      have hw1 : IntKind.i64.wrap ((tx.length : Int) + 1) = (tx.length : Int) + 1 := by rw [IntKind.wrap_i64]; omega
      have hne1 : ((tx.length : Int) + 1 == 0) = false := by simp; omega
      obtain ⟨a, ha⟩ : ∃ a : Nat, of.tmod ((tx.length : Int) + 1) = (a : Int) := ⟨(of.tmod ((tx.length : Int) + 1)).toNat, by have := Int.tmod_nonneg ((tx.length : Int) + 1) hof0; omega⟩
      have hat : a ≤ tx.length := by have := Int.tmod_lt_of_pos of (show (0 : Int) < (tx.length : Int) + 1 by omega); omega
      have hw2 : IntKind.i64.wrap ((tx.length : Int) - a) = (tx.length : Int) - a := by rw [IntKind.wrap_i64]; omega
      have hw3 : IntKind.i64.wrap ((tx.length : Int) - a + 1) = (tx.length : Int) - a + 1 := by rw [IntKind.wrap_i64]; omega
      have hne2 : ((tx.length : Int) - a + 1 == 0) = false := by simp; omega
      obtain ⟨k, hk⟩ : ∃ k : Nat, nn.tmod ((tx.length : Int) - a + 1) = (k : Int) := ⟨(nn.tmod ((tx.length : Int) - a + 1)).toNat, by have := Int.tmod_nonneg ((tx.length : Int) - a + 1) hnn0; omega⟩
      have hkt : a + k ≤ tx.length := by have := Int.tmod_lt_of_pos nn (show (0 : Int) < (tx.length : Int) - a + 1 by omega); omega
      have hde := del_I a k H3.out HI.out hkt (by omega)
      obtain ⟨t2, ht2⟩ : ∃ t2, t2 = tx.take a ++ tx.drop (a + k) := ⟨_, rfl⟩
      have c1 := run_cat (a := tx.take a) (b := tx.drop (a + k)) (by simp; omega)
      rw [← ht2] at c1 hde
      have e1 := ext_pre tx a
      have e2 := ext_suf (f := tx) (k := a + k) rfl
      have Hde := Lib.hid hde
      have hwe : IntKind.i64.wrap ((e : Int) + 1) = (e : Int) + 1 := by rw [IntKind.wrap_i64]; omega
      have hwak : IntKind.i64.wrap ((a : Int) + k) = (a : Int) + k := by rw [IntKind.wrap_i64]; omega
      have hwak2 : IntKind.i64.wrap ((a + k : Nat) : Int) = ((a + k : Nat) : Int) := by rw [IntKind.wrap_i64]; omega
      have hwa : IntKind.i64.wrap (a : Int) = (a : Int) := by rw [IntKind.wrap_i64]; omega
      have hai : (a : Int) ≤ (tx.length : Int) := by omega
      have haki : (a : Int) + k ≤ (tx.length : Int) := by omega
      have h0ak : (0 : Int) ≤ (a : Int) + k := by omega
      have htn : ((a : Int) + k).toNat = a + k := by omega
      clear hde H3 HI ht2
      go_wp2_with fail
      refine Hde.out.mono ?_
      rintro e4 w4 ⟨T', rfl, h4⟩
      obtain ⟨hI', h4⟩ := h4.pureE
      by_cases hk0 : k = 0
      · rw [if_pos hk0] at hI'
        obtain ⟨bk, hbk⟩ : ∃ bk, bk = decide ((0 : Int) < (k : Int)) := ⟨_, rfl⟩
        have hbk' : bk = false := by rw [hbk]; simp; omega
        have Hbk := Lib.hid hbk'
        have hk0' := hbk.symm
        have hwh := whole_I h4.drew hI'
        rw [Nat.add_zero] at hwh
        have Hwh := Lib.hid hwh
        clear hwh h4 hI' Hde hk0 hbk hbk'
        go_upto_region 25 with (fail)
        go_wp2_with fail
        · have hx := Hbk.out
          rw [← hk0', decide_eq_false_iff_not] at hx
          omega
        refine wp_region_T (fun _ => True) 11 (by kernel_rfl) trivial (fun hS0 => ?_)
        refine wpAnyT_take (i := 0) (oi := _) (v := .pointer (some ⟨p, 0, none⟩)) [11] rfl (by kernel_rfl) (fun _ _ _ h => h) (Or.inl ⟨by rfl, fun w hSw => ?_⟩) hS0 ?_
        · go_simp
        try simp only [Act.put, List.setIfInBounds_toArray, List.set_cons_zero, List.set_cons_succ, List.getElem_toArray, List.getElem_cons_zero, List.getElem_cons_succ]
        refine wpAnyT_take (i := 1) (oi := _) (v := .string (bstr tx)) [3, 9, 11] rfl (by kernel_rfl) (fun _ _ _ h => h) (Or.inl ⟨by rfl, fun w hSw => ?_⟩) hS0 ?_
        · go_simp
        try simp only [Act.put, List.setIfInBounds_toArray, List.set_cons_zero, List.set_cons_succ, List.getElem_toArray, List.getElem_cons_zero, List.getElem_cons_succ]
        refine wpAnyT_take (i := 2) (oi := _) (v := .int .i64 (a : Int)) [3, 9, 11] rfl (by kernel_rfl) (fun _ _ _ h => h) (Or.inl ⟨by rfl, fun w hSw => ?_⟩) hS0 ?_
        · go_simp
        try simp only [Act.put, List.setIfInBounds_toArray, List.set_cons_zero, List.set_cons_succ, List.getElem_toArray, List.getElem_cons_zero, List.getElem_cons_succ]
        refine wpAnyT_take (i := 3) (oi := _) (v := .string (bstr (tx.take a))) [9, 11] rfl (by kernel_rfl) (fun _ _ _ h => h) (Or.inl ⟨by rfl, fun w hSw => ?_⟩) hS0 ?_
        · go_simp
        try simp only [Act.put, List.setIfInBounds_toArray, List.set_cons_zero, List.set_cons_succ, List.getElem_toArray, List.getElem_cons_zero, List.getElem_cons_succ]
        refine wpAnyT_take (i := 4) (oi := _) (v := .string (bstr tx)) [8, 9, 11] rfl (by kernel_rfl) (fun _ _ _ h => h) (Or.inl ⟨by rfl, fun w hSw => ?_⟩) hS0 ?_
        · go_simp
        try simp only [Act.put, List.setIfInBounds_toArray, List.set_cons_zero, List.set_cons_succ, List.getElem_toArray, List.getElem_cons_zero, List.getElem_cons_succ]
        refine wpAnyT_take (i := 5) (oi := _) (v := .int .i64 (a : Int)) [7, 8, 9, 11] rfl (by kernel_rfl) (fun _ _ _ h => h) (Or.inl ⟨by rfl, fun w hSw => ?_⟩) hS0 ?_
        · go_simp
        try simp only [Act.put, List.setIfInBounds_toArray, List.set_cons_zero, List.set_cons_succ, List.getElem_toArray, List.getElem_cons_zero, List.getElem_cons_succ]
        refine wpAnyT_take (i := 6) (oi := _) (v := .int .i64 (k : Int)) [7, 8, 9, 11] rfl (by kernel_rfl) (fun _ _ _ h => h) (Or.inl ⟨by rfl, fun w hSw => ?_⟩) hS0 ?_
        · go_simp
        try simp only [Act.put, List.setIfInBounds_toArray, List.set_cons_zero, List.set_cons_succ, List.getElem_toArray, List.getElem_cons_zero, List.getElem_cons_succ]
        refine wpAnyT_take (i := 7) (oi := _) (v := .int .i64 ((a : Int) + k)) [8, 9, 11] rfl (by kernel_rfl) (fun _ _ _ h => h) (Or.inl ⟨by rfl, fun w hSw => ?_⟩) hS0 ?_
        · go_simp
        try simp only [Act.put, List.setIfInBounds_toArray, List.set_cons_zero, List.set_cons_succ, List.getElem_toArray, List.getElem_cons_zero, List.getElem_cons_succ]
        refine wpAnyT_take (i := 8) (oi := _) (v := .string (bstr (tx.drop (a + k)))) [9, 11] rfl (by kernel_rfl) (fun _ _ _ h => h) (Or.inl ⟨by rfl, fun w hSw => ?_⟩) hS0 ?_
        · go_simp
        try simp only [Act.put, List.setIfInBounds_toArray, List.set_cons_zero, List.set_cons_succ, List.getElem_toArray, List.getElem_cons_zero, List.getElem_cons_succ]
        refine wpAnyT_take (i := 9) (oi := _) (v := .string (bstr t2)) [11] rfl (by kernel_rfl) (fun _ _ _ h => h) (Or.inl ⟨by rfl, fun w hSw => ?_⟩) hS0 ?_
        · go_simp
        try simp only [Act.put, List.setIfInBounds_toArray, List.set_cons_zero, List.set_cons_succ, List.getElem_toArray, List.getElem_cons_zero, List.getElem_cons_succ]
        refine wpAnyT_take (i := 10) (oi := _) (v := .int .i64 (e : Int)) [11] rfl (by kernel_rfl) (fun _ _ _ h => h) (Or.inl ⟨by rfl, fun w hSw => ?_⟩) hS0 ?_
        · go_simp
        try simp only [Act.put, List.setIfInBounds_toArray, List.set_cons_zero, List.set_cons_succ, List.getElem_toArray, List.getElem_cons_zero, List.getElem_cons_succ]
        refine wpAnyT_last (i := 11) (o := _) rfl (by kernel_rfl) (by kernel_rfl) (fun K' hK => ?_)
        simp only [List.getElem_toArray, List.getElem_cons_zero, List.getElem_cons_succ]
        rw [if_pos (by rfl)]
        go_simp
        refine Hwh.out.mono ?_
        rintro e5 w5 ⟨rfl, h5⟩
        have H5 := Lib.hid h5
        refine hK.out _ _ ?_
        clear h5 hK K'
        try simp only [Act.put, List.setIfInBounds_toArray, List.set_cons_zero, List.set_cons_succ, List.getElem_toArray, List.getElem_cons_zero, List.getElem_cons_succ]
        refine wpAnyT_last (i := 12) (o := _) rfl (by kernel_rfl) (by kernel_rfl) (fun K' hK => ?_)
        simp only [List.getElem_toArray, List.getElem_cons_zero, List.getElem_cons_succ]
        rw [if_pos (by rfl)]
        go_simp
        refine hK.out _ _ (wpAnyT_done (by kernel_rfl) ?_ _)
        dsimp only [Whole]
        clear hK K'
        go_wp2_with fail
        go_ret
        exact ⟨rfl, H5.out.below⟩
      · rw [if_neg hk0] at hI'
        have hk0' : (0 : Int) < (k : Int) := by omega
        have hwh := whole_I h4.drew hI'
        rw [show ((e + 1 : Nat) : Int) = (e : Int) + 1 by omega] at hwh
        have Hwh := Lib.hid hwh
        clear hwh h4 hI' Hde
        go_upto_region 27 with (fail)
        clear hk0 hk0'
        refine wp_region_T (fun _ => True) 11 (by kernel_rfl) trivial (fun hS0 => ?_)
        refine wpAnyT_take (i := 0) (oi := _) (v := .pointer (some ⟨p, 0, none⟩)) [11] rfl (by kernel_rfl) (fun _ _ _ h => h) (Or.inl ⟨by rfl, fun w hSw => ?_⟩) hS0 ?_
        · go_simp
        try simp only [Act.put, List.setIfInBounds_toArray, List.set_cons_zero, List.set_cons_succ, List.getElem_toArray, List.getElem_cons_zero, List.getElem_cons_succ]
        refine wpAnyT_take (i := 1) (oi := _) (v := .string (bstr tx)) [3, 9, 11] rfl (by kernel_rfl) (fun _ _ _ h => h) (Or.inl ⟨by rfl, fun w hSw => ?_⟩) hS0 ?_
        · go_simp
        try simp only [Act.put, List.setIfInBounds_toArray, List.set_cons_zero, List.set_cons_succ, List.getElem_toArray, List.getElem_cons_zero, List.getElem_cons_succ]
        refine wpAnyT_take (i := 2) (oi := _) (v := .int .i64 (a : Int)) [3, 9, 11] rfl (by kernel_rfl) (fun _ _ _ h => h) (Or.inl ⟨by rfl, fun w hSw => ?_⟩) hS0 ?_
        · go_simp
        try simp only [Act.put, List.setIfInBounds_toArray, List.set_cons_zero, List.set_cons_succ, List.getElem_toArray, List.getElem_cons_zero, List.getElem_cons_succ]
        refine wpAnyT_take (i := 3) (oi := _) (v := .string (bstr (tx.take a))) [9, 11] rfl (by kernel_rfl) (fun _ _ _ h => h) (Or.inl ⟨by rfl, fun w hSw => ?_⟩) hS0 ?_
        · go_simp
        try simp only [Act.put, List.setIfInBounds_toArray, List.set_cons_zero, List.set_cons_succ, List.getElem_toArray, List.getElem_cons_zero, List.getElem_cons_succ]
        refine wpAnyT_take (i := 4) (oi := _) (v := .string (bstr tx)) [8, 9, 11] rfl (by kernel_rfl) (fun _ _ _ h => h) (Or.inl ⟨by rfl, fun w hSw => ?_⟩) hS0 ?_
        · go_simp
        try simp only [Act.put, List.setIfInBounds_toArray, List.set_cons_zero, List.set_cons_succ, List.getElem_toArray, List.getElem_cons_zero, List.getElem_cons_succ]
        refine wpAnyT_take (i := 5) (oi := _) (v := .int .i64 (a : Int)) [7, 8, 9, 11] rfl (by kernel_rfl) (fun _ _ _ h => h) (Or.inl ⟨by rfl, fun w hSw => ?_⟩) hS0 ?_
        · go_simp
        try simp only [Act.put, List.setIfInBounds_toArray, List.set_cons_zero, List.set_cons_succ, List.getElem_toArray, List.getElem_cons_zero, List.getElem_cons_succ]
        refine wpAnyT_take (i := 6) (oi := _) (v := .int .i64 (k : Int)) [7, 8, 9, 11] rfl (by kernel_rfl) (fun _ _ _ h => h) (Or.inl ⟨by rfl, fun w hSw => ?_⟩) hS0 ?_
        · go_simp
        try simp only [Act.put, List.setIfInBounds_toArray, List.set_cons_zero, List.set_cons_succ, List.getElem_toArray, List.getElem_cons_zero, List.getElem_cons_succ]
        refine wpAnyT_take (i := 7) (oi := _) (v := .int .i64 ((a : Int) + k)) [8, 9, 11] rfl (by kernel_rfl) (fun _ _ _ h => h) (Or.inl ⟨by rfl, fun w hSw => ?_⟩) hS0 ?_
        · go_simp
        try simp only [Act.put, List.setIfInBounds_toArray, List.set_cons_zero, List.set_cons_succ, List.getElem_toArray, List.getElem_cons_zero, List.getElem_cons_succ]
        refine wpAnyT_take (i := 8) (oi := _) (v := .string (bstr (tx.drop (a + k)))) [9, 11] rfl (by kernel_rfl) (fun _ _ _ h => h) (Or.inl ⟨by rfl, fun w hSw => ?_⟩) hS0 ?_
        · go_simp
        try simp only [Act.put, List.setIfInBounds_toArray, List.set_cons_zero, List.set_cons_succ, List.getElem_toArray, List.getElem_cons_zero, List.getElem_cons_succ]
        refine wpAnyT_take (i := 9) (oi := _) (v := .string (bstr t2)) [11] rfl (by kernel_rfl) (fun _ _ _ h => h) (Or.inl ⟨by rfl, fun w hSw => ?_⟩) hS0 ?_
        · go_simp
        try simp only [Act.put, List.setIfInBounds_toArray, List.set_cons_zero, List.set_cons_succ, List.getElem_toArray, List.getElem_cons_zero, List.getElem_cons_succ]
        refine wpAnyT_take (i := 10) (oi := _) (v := .int .i64 ((e : Int) + 1)) [11] rfl (by kernel_rfl) (fun _ _ _ h => h) (Or.inl ⟨by rfl, fun w hSw => ?_⟩) hS0 ?_
        · go_simp
        try simp only [Act.put, List.setIfInBounds_toArray, List.set_cons_zero, List.set_cons_succ, List.getElem_toArray, List.getElem_cons_zero, List.getElem_cons_succ]
        refine wpAnyT_last (i := 11) (o := _) rfl (by kernel_rfl) (by kernel_rfl) (fun K' hK => ?_)
        simp only [List.getElem_toArray, List.getElem_cons_zero, List.getElem_cons_succ]
        rw [if_pos (by rfl)]
        go_simp
        refine Hwh.out.mono ?_
        rintro e5 w5 ⟨rfl, h5⟩
        have H5 := Lib.hid h5
        refine hK.out _ _ ?_
        clear h5 hK K'
        try simp only [Act.put, List.setIfInBounds_toArray, List.set_cons_zero, List.set_cons_succ, List.getElem_toArray, List.getElem_cons_zero, List.getElem_cons_succ]
        refine wpAnyT_last (i := 12) (o := _) rfl (by kernel_rfl) (by kernel_rfl) (fun K' hK => ?_)
        simp only [List.getElem_toArray, List.getElem_cons_zero, List.getElem_cons_succ]
        rw [if_pos (by rfl)]
        go_simp
        refine hK.out _ _ (wpAnyT_done (by kernel_rfl) ?_ _)
        dsimp only [Whole]
        clear hK K'
        go_wp2_with fail
        go_ret
        exact ⟨rfl, H5.out.below⟩
end Go.Proofs.Ytdlcmehopnhmgaa
