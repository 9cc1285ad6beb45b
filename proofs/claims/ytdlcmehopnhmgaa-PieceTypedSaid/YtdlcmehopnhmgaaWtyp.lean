/- The law PieceTyped on values that read. -/
import Derived.Test.YtdlcmehopnhmgaaCG
import Derived.Test.YtdlcmehopnhmgaaRead
namespace Go.Proofs.Ytdlcmehopnhmgaa
open Go Go.RowKit Go.Fol
attribute [local go_sem ↓] Go.wp_at_zero Go.wp_at_succ
attribute [-go_sem] Go.run_string_add_if
set_option linter.unusedVariables false
set_option linter.unusedSimpArgs false
theorem mid_ins {f g : List UInt8} {k i : Nat} (hk : k ≤ f.length) (hi : i < g.length) :
    (f.take k ++ g.take i ++ f.drop k).take (k + i) ++ (g.drop i).take 1 ++ (f.take k ++ g.take i ++ f.drop k).drop (k + i) = f.take k ++ g.take (i + 1) ++ f.drop k := by
  have hl : (f.take k ++ g.take i).length = k + i := by simp; omega
  rw [List.take_left' hl, List.drop_left' hl, List.take_add]
  simp
theorem mid_del {f g : List UInt8} {k i : Nat} (hk : k ≤ f.length) (hi : i < g.length) :
    (f.take k ++ g.take (i + 1) ++ f.drop k).take (k + i) ++ (f.take k ++ g.take (i + 1) ++ f.drop k).drop (k + i + 1) = f.take k ++ g.take i ++ f.drop k := by
  have hl : (f.take k ++ g.take i).length = k + i := by simp; omega
  have hl2 : (f.take k ++ g.take (i + 1)).length = k + i + 1 := by simp; omega
  have e : g.take (i + 1) = g.take i ++ (g.drop i).take 1 := List.take_add
  rw [List.drop_left' hl2, List.take_append_of_le_length (by omega), e, ← List.append_assoc, List.take_left' hl]
theorem tx_len {f g : List UInt8} {k i : Nat} (hk : k ≤ f.length) (hi : i ≤ g.length) : (f.take k ++ g.take i ++ f.drop k).length = f.length + i := by simp; omega
set_option maxHeartbeats 4000000 in
set_option maxRecDepth 100000 in
theorem pieceTyped_walk (w : World) (v0 v1 v2 : Value) (a0 : Arg Try.prog w 9 v0) (a1 : Arg Try.prog w 9 v1) (a2 : Arg Try.prog w 5 v2) :
    Calls Try.prog 7 #[v0, v1, v2] w fun e w' => e = .returned (.bool true) ∧ Below w.heap.size w w' := by
  obtain ⟨s0, rfl, hs0⟩ := arg_string Try.underlying9 a0
  obtain ⟨s1, rfl, hs1⟩ := arg_string Try.underlying9 a1
  obtain ⟨at_, rfl, hat⟩ := arg_int Try.underlying5 a2
  obtain ⟨hat0, hat1⟩ := wf_u8 hat
  clear a0 a1 a2 hat
  obtain ⟨f, rfl⟩ : ∃ f, s0 = bstr f := ⟨s0.data.toList, (bstr_toList s0).symm⟩
  obtain ⟨g, rfl⟩ : ∃ g, s1 = bstr g := ⟨s1.data.toList, (bstr_toList s1).symm⟩
  have hfz := bstr_size f
  have hgz := bstr_size g
  rw [hfz] at hs0
  rw [hgz] at hs1
  go_enter Try.func7, Try.ntmps7
  go_wp2_with fail
  refine (known_true (Owns.start w)).mono ?_
  rintro e w1 ⟨rfl, h1⟩
  have H1 := Lib.hid h1
  clear h1
  by_cases hf1 : 100 < (f.length : Int)
  · go_wp2_with fail
    go_ret
    exact ⟨rfl, H1.out.below⟩
  have hf1' : decide (100 < (f.length : Int)) = false := by simpa using hf1
  by_cases hg1 : 100 < (g.length : Int)
  · go_wp2_with fail
    go_ret
    exact ⟨rfl, H1.out.below⟩
  have hg1' : decide (100 < (g.length : Int)) = false := by simpa using hg1
  have hf2 : f.length ≤ 100 := by omega
  have hg2 : g.length ≤ 100 := by omega
  go_wp2_with fail
  refine (cnew 1000 H1.out (by omega) (by omega)).mono ?_
  rintro e w2 ⟨p, rfl, h2⟩
  have hw1 : IntKind.i64.wrap ((f.length : Int) + 1) = (f.length : Int) + 1 := by rw [IntKind.wrap_i64]; omega
  have hne : ((f.length : Int) + 1 == 0) = false := by simp; omega
  obtain ⟨k, hk⟩ : ∃ k : Nat, at_.tmod ((f.length : Int) + 1) = (k : Int) := ⟨(at_.tmod ((f.length : Int) + 1)).toNat, by have := Int.tmod_nonneg ((f.length : Int) + 1) hat0; omega⟩
  have hkf : k ≤ f.length := by have := Int.tmod_lt_of_pos at_ (show (0 : Int) < (f.length : Int) + 1 by omega); omega
  have hI0 : TbI (newT f 1000) f 0 1000 0 := TbI.new (by omega) (by decide)
  have HI0 := Lib.hid hI0
  have H2 := Lib.hid h2
  clear h2 H1 hI0
  go_wp2_with fail
  go_loopw [10] (fun q wr => ∃ (i : Nat) (T : Tb), i ≤ g.length ∧ q = .int .i64 i ∧ TbI T (f.take k ++ g.take i ++ f.drop k) i 1000 i ∧ Owns w wr [tabA p T]) (fun q _ => g.length - (intOf q).toNat)
  case atStart => exact ⟨0, _, Nat.zero_le _, rfl, by simpa using HI0.out, H2.out⟩
  case round =>
    obtain ⟨i, T, hi, rfl, hI, h3⟩ := hrel
    have H3 := Lib.hid h3
    have HI := Lib.hid hI
    clear h3 hI H2 HI0
    by_cases hlt : i < g.length
    · have hlt' : (i : Int) < (g.length : Int) := by omega
      have hwi : IntKind.i64.wrap ((i : Int) + 1) = (i : Int) + 1 := by rw [IntKind.wrap_i64]; omega
      have hwki : IntKind.i64.wrap ((k : Int) + i) = (k : Int) + i := by rw [IntKind.wrap_i64]; omega
      have he : (bstr g).extract i (i + 1) = bstr ((g.drop i).take 1) := by rw [extract_bstr, Nat.add_sub_cancel_left]
      have hone : ((g.drop i).take 1).length = 1 := by simp; omega
      have hin := ins_I (s := (g.drop i).take 1) (k + i) H3.out HI.out (by rw [tx_len hkf hi]; omega) (by rw [tx_len hkf hi, hone]; omega) (by rw [hone]; omega) (by omega)
      rw [mid_ins hkf hlt, hone, if_neg (by intro h; rw [h] at hone; simp at hone), Int.natCast_add] at hin
      have Hin := Lib.hid hin
      clear hin H3 HI hone
      go_wp2_with fail
      refine Hin.out.mono ?_
      rintro e w4 ⟨T', rfl, h4⟩
      obtain ⟨hI', h4⟩ := h4.pureE
      have H4 := Lib.hid h4
      have HI' := Lib.hid hI'
      clear h4 hI' Hin
      go_wp2_with fail
      go_roundw
      case rel => exact ⟨i + 1, T', by omega, by go_num, HI'.out, H4.out⟩
      case measure => simp [intOf]; omega
    · have hie : i = g.length := by omega
      have hlt' : ¬ ((i : Int) < (g.length : Int)) := by omega
      subst hie
      have c1 := run_cat (a := f.take k) (b := g) (by simp; omega)
      have c2 := run_cat (a := f.take k ++ g) (b := f.drop k) (by simp; omega)
      have e1 := ext_pre f k
      have e2 := ext_suf (f := f) (k := k) rfl
      have hI := HI.out
      rw [List.take_of_length_le (Nat.le_refl _)] at hI
      have hkl : (k : Int) ≤ f.length := by omega
      have hwk : IntKind.i64.wrap (k : Int) = (k : Int) := by rw [IntKind.wrap_i64]; omega
      obtain ⟨tx, htx⟩ : ∃ tx, tx = f.take k ++ g ++ f.drop k := ⟨_, rfl⟩
      obtain ⟨t1, ht1⟩ : ∃ t1, t1 = f.take k ++ g := ⟨_, rfl⟩
      rw [← htx] at hI
      rw [← ht1] at c1 c2 htx
      rw [← htx] at c2
      clear htx ht1
      have hwh := whole_I H3.out.drew hI
      have Hwh := Lib.hid hwh
      clear hwh hI
      go_upto_region 14 with (fail)
      refine wp_region_T (fun _ => True) 12 (by kernel_rfl) trivial (fun hS0 => ?_)
      refine wpAnyT_take (i := 0) (oi := _) (v := .pointer (some ⟨p, 0, none⟩)) [12] rfl (by kernel_rfl) (fun _ _ _ h => h) (Or.inl ⟨by rfl, fun w hSw => ?_⟩) hS0 ?_
      · go_simp
      try simp only [Act.put, List.setIfInBounds_toArray, List.set_cons_zero, List.set_cons_succ, List.getElem_toArray, List.getElem_cons_zero, List.getElem_cons_succ]
      refine wpAnyT_take (i := 1) (oi := _) (v := .string (bstr f)) [3, 5, 9, 12] rfl (by kernel_rfl) (fun _ _ _ h => h) (Or.inl ⟨by rfl, fun w hSw => ?_⟩) hS0 ?_
      · go_simp
      try simp only [Act.put, List.setIfInBounds_toArray, List.set_cons_zero, List.set_cons_succ, List.getElem_toArray, List.getElem_cons_zero, List.getElem_cons_succ]
      refine wpAnyT_take (i := 2) (oi := _) (v := .int .i64 (k : Int)) [3, 5, 9, 12] rfl (by kernel_rfl) (fun _ _ _ h => h) (Or.inl ⟨by rfl, fun w hSw => ?_⟩) hS0 ?_
      · go_simp
      try simp only [Act.put, List.setIfInBounds_toArray, List.set_cons_zero, List.set_cons_succ, List.getElem_toArray, List.getElem_cons_zero, List.getElem_cons_succ]
      refine wpAnyT_take (i := 3) (oi := _) (v := .string (bstr (f.take k))) [5, 9, 12] rfl (by kernel_rfl) (fun _ _ _ h => h) (Or.inl ⟨by rfl, fun w hSw => ?_⟩) hS0 ?_
      · go_simp
      try simp only [Act.put, List.setIfInBounds_toArray, List.set_cons_zero, List.set_cons_succ, List.getElem_toArray, List.getElem_cons_zero, List.getElem_cons_succ]
      refine wpAnyT_take (i := 4) (oi := _) (v := .string (bstr g)) [5, 9, 12] rfl (by kernel_rfl) (fun _ _ _ h => h) (Or.inl ⟨by rfl, fun w hSw => ?_⟩) hS0 ?_
      · go_simp
      try simp only [Act.put, List.setIfInBounds_toArray, List.set_cons_zero, List.set_cons_succ, List.getElem_toArray, List.getElem_cons_zero, List.getElem_cons_succ]
      refine wpAnyT_take (i := 5) (oi := _) (v := .string (bstr t1)) [9, 12] rfl (by kernel_rfl) (fun _ _ _ h => h) (Or.inl ⟨by rfl, fun w hSw => ?_⟩) hS0 ?_
      · go_simp
      try simp only [Act.put, List.setIfInBounds_toArray, List.set_cons_zero, List.set_cons_succ, List.getElem_toArray, List.getElem_cons_zero, List.getElem_cons_succ]
      refine wpAnyT_take (i := 6) (oi := _) (v := .string (bstr f)) [8, 9, 12] rfl (by kernel_rfl) (fun _ _ _ h => h) (Or.inl ⟨by rfl, fun w hSw => ?_⟩) hS0 ?_
      · go_simp
      try simp only [Act.put, List.setIfInBounds_toArray, List.set_cons_zero, List.set_cons_succ, List.getElem_toArray, List.getElem_cons_zero, List.getElem_cons_succ]
      refine wpAnyT_take (i := 7) (oi := _) (v := .int .i64 (k : Int)) [8, 9, 12] rfl (by kernel_rfl) (fun _ _ _ h => h) (Or.inl ⟨by rfl, fun w hSw => ?_⟩) hS0 ?_
      · go_simp
      try simp only [Act.put, List.setIfInBounds_toArray, List.set_cons_zero, List.set_cons_succ, List.getElem_toArray, List.getElem_cons_zero, List.getElem_cons_succ]
      refine wpAnyT_take (i := 8) (oi := _) (v := .string (bstr (f.drop k))) [9, 12] rfl (by kernel_rfl) (fun _ _ _ h => h) (Or.inl ⟨by rfl, fun w hSw => ?_⟩) hS0 ?_
      · go_simp
      try simp only [Act.put, List.setIfInBounds_toArray, List.set_cons_zero, List.set_cons_succ, List.getElem_toArray, List.getElem_cons_zero, List.getElem_cons_succ]
      refine wpAnyT_take (i := 9) (oi := _) (v := .string (bstr tx)) [12] rfl (by kernel_rfl) (fun _ _ _ h => h) (Or.inl ⟨by rfl, fun w hSw => ?_⟩) hS0 ?_
      · go_simp
      try simp only [Act.put, List.setIfInBounds_toArray, List.set_cons_zero, List.set_cons_succ, List.getElem_toArray, List.getElem_cons_zero, List.getElem_cons_succ]
      refine wpAnyT_take (i := 10) (oi := _) (v := .string (bstr g)) [11, 12] rfl (by kernel_rfl) (fun _ _ _ h => h) (Or.inl ⟨by rfl, fun w hSw => ?_⟩) hS0 ?_
      · go_simp
      try simp only [Act.put, List.setIfInBounds_toArray, List.set_cons_zero, List.set_cons_succ, List.getElem_toArray, List.getElem_cons_zero, List.getElem_cons_succ]
      refine wpAnyT_take (i := 11) (oi := _) (v := .int .i64 g.length) [12] rfl (by kernel_rfl) (fun _ _ _ h => h) (Or.inl ⟨by rfl, fun w hSw => ?_⟩) hS0 ?_
      · go_simp
      try simp only [Act.put, List.setIfInBounds_toArray, List.set_cons_zero, List.set_cons_succ, List.getElem_toArray, List.getElem_cons_zero, List.getElem_cons_succ]
      refine wpAnyT_last (i := 12) (o := _) rfl (by kernel_rfl) (by kernel_rfl) (fun K' hK => ?_)
      simp only [List.getElem_toArray, List.getElem_cons_zero, List.getElem_cons_succ]
      rw [if_pos (by rfl)]
      go_simp
      refine Hwh.out.mono ?_
      rintro e w4 ⟨rfl, h4⟩
      have H4 := Lib.hid h4
      refine hK.out _ _ ?_
      clear h4 hK K'
      try simp only [Act.put, List.setIfInBounds_toArray, List.set_cons_zero, List.set_cons_succ, List.getElem_toArray, List.getElem_cons_zero, List.getElem_cons_succ]
      refine wpAnyT_last (i := 13) (o := _) rfl (by kernel_rfl) (by kernel_rfl) (fun K' hK => ?_)
      simp only [List.getElem_toArray, List.getElem_cons_zero, List.getElem_cons_succ]
      rw [if_pos (by rfl)]
      go_simp
      refine hK.out _ _ (wpAnyT_done (by kernel_rfl) ?_ _)
      dsimp only [Whole]
      clear hK K'
      clear H3 Hwh c1 c2 e1 e2 hlt'
      go_wp2_with fail
      have HI2 := Lib.hid HI.out
      clear HI
      go_loopw [11] (fun q wr => ∃ (i : Nat) (T : Tb), i ≤ g.length ∧ q = .int .i64 i ∧ TbI T (f.take k ++ g.take i ++ f.drop k) (g.length + (g.length - i)) 1000 g.length ∧ Owns w wr [tabA p T]) (fun q _ => (intOf q).toNat)
      case atStart => exact ⟨g.length, T, Nat.le_refl _, rfl, by rw [Nat.sub_self]; exact HI2.out, H4.out⟩
      case round =>
        obtain ⟨i, T', hi, rfl, hI, h5⟩ := hrel
        have H5 := Lib.hid h5
        have HI := Lib.hid hI
        clear h5 hI H4 HI2
        by_cases hpos : 0 < i
        · obtain ⟨j, rfl⟩ : ∃ j, i = j + 1 := ⟨i - 1, by omega⟩
          have hpos' : (0 : Int) < ((j + 1 : Nat) : Int) := by omega
          have hwki : IntKind.i64.wrap ((k : Int) + ((j + 1 : Nat) : Int)) = (k : Int) + ((j + 1 : Nat) : Int) := by rw [IntKind.wrap_i64]; omega
          have hwk1 : IntKind.i64.wrap ((k : Int) + ((j : Int) + 1) - 1) = (k : Int) + ((j : Int) + 1) - 1 := by rw [IntKind.wrap_i64]; omega
          have hwk2 : IntKind.i64.wrap ((k : Int) + ((j : Int) + 1)) = (k : Int) + ((j : Int) + 1) := by rw [IntKind.wrap_i64]; omega
          have hwj : IntKind.i64.wrap (((j + 1 : Nat) : Int) - 1) = (j : Int) := by rw [IntKind.wrap_i64]; omega
          have hde := del_I (k + j) 1 H5.out HI.out (by rw [tx_len hkf hi]; omega) (by omega)
          rw [mid_del hkf (by omega), if_neg (by decide), show ((1 : Nat) : Int) = 1 from rfl, show ((k + j : Nat) : Int) = (k : Int) + ((j : Int) + 1) - 1 by omega] at hde
          have Hde := Lib.hid hde
          clear hde H5 HI
          go_wp2_with fail
          refine Hde.out.mono ?_
          rintro e w5 ⟨T2, rfl, h6⟩
          obtain ⟨hI', h6⟩ := h6.pureE
          rw [show g.length + (g.length - (j + 1)) + 1 = g.length + (g.length - j) by omega] at hI'
          have H6 := Lib.hid h6
          have HI' := Lib.hid hI'
          clear h6 hI' Hde
          go_wp2_with fail
          go_roundw
          case rel => exact ⟨j, T2, by omega, by go_num, HI'.out, H6.out⟩
          case measure => simp [intOf]
        · obtain rfl : i = 0 := by omega
          have hI := HI.out
          rw [List.take_zero, List.append_nil, List.take_append_drop] at hI
          have hw2 : IntKind.i64.wrap (2 * (g.length : Int)) = 2 * (g.length : Int) := by rw [IntKind.wrap_i64]; omega
          have hwh := whole_I H5.out hI
          rw [show ((g.length + (g.length - 0) : Nat) : Int) = 2 * (g.length : Int) by omega] at hwh
          have Hwh := Lib.hid hwh
          clear hwh hI HI
          go_wp2_with (go_at_call 13; refine Hwh.out.mono ?_; rintro e w6 ⟨rfl, h6⟩; have H6 := Lib.hid h6; clear h6)
          go_ret
          exact ⟨rfl, H6.out.below⟩
end Go.Proofs.Ytdlcmehopnhmgaa
