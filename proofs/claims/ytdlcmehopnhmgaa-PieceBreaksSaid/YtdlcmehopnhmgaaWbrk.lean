/- The law PieceBreaks on values that read. -/
import Derived.Test.YtdlcmehopnhmgaaCG
import Derived.Test.YtdlcmehopnhmgaaRead
import Derived.Test.YtdlcmehopnhmgaaHeld
namespace Go.Proofs.Ytdlcmehopnhmgaa
open Go Go.RowKit Go.Fol
attribute [local go_sem ↓] Go.wp_at_zero Go.wp_at_succ run_min2 run_max2
attribute [local go_sem] Oper.semAt_some
set_option linter.unusedVariables false
set_option linter.unusedSimpArgs false
theorem TbI.more' {T : Tb} {tx : List UInt8} {ed ad ad' : Nat} {most : Int} (h : TbI T tx ed most ad) (ha : ad ≤ ad') : TbI T tx ed most ad' := ⟨h.ok, h.htx, h.hed, h.hmost, Nat.le_trans h.had ha, h.len⟩
set_option maxHeartbeats 1000000 in
set_option maxRecDepth 100000 in
theorem pieceBreaks_walk (w : World) (v0 v1 : Value) (a0 : Arg Try.prog w 35 v0) (a1 : Arg Try.prog w 5 v1) :
    Calls Try.prog 5 #[v0, v1] w fun e w' => e = .returned (.bool true) ∧ Below w.heap.size w w' := by
  obtain ⟨l, hl, hlb, _⟩ := arg_strs Try.underlying35 Try.underlying9 (by kernel_rfl) (by kernel_rfl) a0
  obtain ⟨mo, rfl, hmo⟩ := arg_int Try.underlying5 a1
  obtain ⟨hmo0, hmo1⟩ := wf_u8 hmo
  obtain ⟨n, hn⟩ : ∃ n, n = l.length := ⟨_, rfl⟩
  rw [← hn] at hl hlb
  obtain ⟨la, lc, rfl⟩ := hl.form
  have Hl := Lib.hid hl
  have Hn := Lib.hid hn
  clear a0 a1 hmo hl hn
  refine calls_of_wp_marks Try.func5 rfl ?_
  simp only [Try.ntmps5, List.size_toArray, List.length_cons, List.length_nil, Nat.reduceAdd, Nat.reduceSub, Array.replicate_succ, Array.replicate_zero, List.push_toArray, List.append_toArray, List.nil_append, List.cons_append]
  go_wp2_with fail
  refine (known_true (Owns.start w)).mono ?_
  rintro e w1 ⟨rfl, h1⟩
  have H1 := Lib.hid h1
  clear h1
  by_cases hbig : 12 < (n : Int)
  · go_wp2_with fail
    (refine leaves_own [] _ (H1.out) (fun w' hw' => ?_); exact ⟨.bool true, by simp [results, Try.f5, go_sem], rfl, hw'.below⟩)
  have hbig' : decide (12 < (n : Int)) = false := by simpa using hbig
  have hn15 : n ≤ 12 := by omega
  go_wp2_with fail
  refine (cnew' (f := [97, 98]) rfl 2000 H1.out (by decide) (by decide)).mono ?_
  rintro e w2 ⟨p, rfl, h2⟩
  have H2 := Lib.hid h2
  have HI0 := Lib.hid (TbI.new (f := [97, 98]) (most := 2000) (by decide) (by decide))
  clear h2 H1
  go_wp2_with fail
  go_loopw [7] (fun q wr => ∃ (i e : Nat) (T : Tb) (tx : List UInt8), i ≤ n ∧ q = .int .i64 i ∧ e ≤ i ∧ 2 ≤ tx.length ∧ tx.length ≤ 2 + 40 * i ∧ TbI T tx e 2000 (40 * i) ∧ Owns w wr [tabA p T]) (fun q _ => n - (intOf q).toNat)
  case atStart => exact ⟨0, 0, _, [97, 98], Nat.zero_le _, rfl, Nat.le_refl _, by decide, by decide, HI0.out, H2.out⟩
  case round =>
    obtain ⟨i, e, T, tx, hi, rfl, hei, htl0, htl, hI, h3⟩ := hrel
    have H3 := Lib.hid h3
    have HI := Lib.hid hI
    clear h3 hI H2 HI0
    by_cases hlt : i < n
    · obtain ⟨x, hx⟩ : ∃ x, l[i]? = some x := ⟨_, List.getElem?_eq_getElem (by have := Hn.out; omega)⟩
      obtain ⟨s, rfl⟩ : ∃ s, x = bstr s := ⟨x.data.toList, (bstr_toList x).symm⟩
      have hsx : (strs l)[i]? = some (.string (bstr s)) := by simp [strs, hx]
      obtain ⟨lb, lo, c', el, hnc, _, hcell0⟩ := (Hl.out.keep H3.out.chg (by simp)).cells (by omega) (by decide)
      cases el
      have hc3 := hcell0 i _ hsx
      have hsz := bstr_size s
      have hlt' : (i : Int) < (n : Int) := by omega
      clear hcell0 hsx hx
      by_cases hs40 : 40 < (s.length : Int)
      · go_wp2_with fail
        (refine leaves_own [] _ (H3.out.drop) (fun w' hw' => ?_); exact ⟨.bool true, by simp [results, Try.f5, go_sem], rfl, hw'.below⟩)
      have hs40' : decide (40 < (s.length : Int)) = false := by simpa using hs40
      have hwi : IntKind.i64.wrap ((i : Int) + 1) = (i : Int) + 1 := by rw [IntKind.wrap_i64]; omega
      have hin := ins_I (s := s) 1 H3.out HI.out (by omega) (by omega) (by omega) (by omega)
      rw [show ((1 : Nat) : Int) = 1 from rfl] at hin
      obtain ⟨t2, ht2⟩ : ∃ t2, t2 = tx.take 1 ++ s ++ tx.drop 1 := ⟨_, rfl⟩
      have ht2l : t2.length = tx.length + s.length := by rw [ht2]; simp; omega
      rw [← ht2] at hin
      obtain ⟨e2, he2⟩ : ∃ e2, e2 = e + if s = [] then 0 else 1 := ⟨_, rfl⟩
      have he2i : e2 ≤ i + 1 := by rw [he2]; split <;> omega
      rw [← he2] at hin
      have Hin := Lib.hid hin
      clear hin H3 HI ht2 he2
      go_wp2_with fail
      refine Hin.out.mono ?_
      rintro e4 w4 ⟨T', rfl, h4⟩
      obtain ⟨hI', h4⟩ := h4.pureE
      have H4 := Lib.hid h4
      have HI' := Lib.hid hI'
      clear h4 hI' Hin hc3
      go_wp2_with fail
      go_roundw
      case rel => exact ⟨i + 1, e2, T', t2, by omega, by go_num, he2i, by omega, by omega, HI'.out.more' (by omega), H4.out⟩
      case measure => simp [intOf]; omega
    · have hlt' : ¬ ((i : Int) < (n : Int)) := by omega
      obtain ⟨K, hK⟩ : ∃ K : Nat, mo.tmod 6 + 1 = (K : Int) := ⟨(mo.tmod 6 + 1).toNat, by have := Int.tmod_nonneg 6 hmo0; omega⟩
      have hm6 : 0 ≤ mo.tmod 6 ∧ mo.tmod 6 < 6 := ⟨Int.tmod_nonneg 6 hmo0, Int.tmod_lt_of_pos mo (by omega)⟩
      obtain ⟨m6, hm6e⟩ : ∃ m6, mo.tmod 6 = m6 := ⟨_, rfl⟩
      rw [hm6e] at hK hm6
      have hw8 : IntKind.u8.wrap m6 = m6 := by unfold IntKind.wrap; simp [IntKind.bits, IntKind.signed]; omega
      have hw64 : IntKind.i64.wrap m6 = m6 := by rw [IntKind.wrap_i64]; omega
      have hwK : IntKind.i64.wrap (K : Int) = (K : Int) := by rw [IntKind.wrap_i64]; omega
      have hK1 : 1 ≤ K := by omega
      have hK6 : K ≤ 6 := by omega
      have hnf := eql_func_nil
      clear hm6
      go_wp2_with fail
      refine (call_all wr).mono ?_
      rintro e w3 ⟨rfl, rfl⟩
      obtain ⟨bq, hbq⟩ : ∃ b, b = wr.heap.size := ⟨_, rfl⟩
      obtain ⟨b9, hb9⟩ : ∃ b, b = bq + 1 := ⟨_, rfl⟩
      obtain ⟨b10, hb10⟩ : ∃ b, b = b9 + 1 := ⟨_, rfl⟩
      obtain ⟨W4, hW4⟩ : ∃ W4, ((wr.alloc (.cells #[.pointer (some ⟨p, 0, none⟩)] 23)).alloc (.cells #[.int .i64 (K : Int)] 3)).alloc (.cells #[.int .i64 0] 3) = W4 := ⟨_, rfl⟩
      have h4 := ((H3.out.alloc #[.pointer (some ⟨p, 0, none⟩)] 23).alloc #[.int .i64 (K : Int)] 3).alloc #[.int .i64 0] 3
      rw [hW4] at h4
      simp only [World.size_alloc] at h4
      rw [← hbq, ← hb9, ← hb10] at h4
      have H4 := Lib.hid h4
      have HW4 := Lib.hid hW4
      have BQ := Lib.hid hbq
      have B9 := Lib.hid hb9
      have B10 := Lib.hid hb10
      clear h4 hW4 hbq hb9 hb10 H3
      go_upto_region 18 with (fail)
      rw [HW4.out, ← BQ.out, ← B9.out, ← B10.out]
      clear HW4 BQ B9 B10
      go_wp2_with fail
      have Hseq := Lib.hid (seq_all (w0 := w) (b1 := bq) (p := p) HI.out.ok)
      refine wp_range_ownZ (gf := 27) (lb := #[.pointer (some ⟨bq, 0, none⟩)]) rfl (enters_fn Try.func27 (by kernel_rfl) rfl) Hseq.out (fun _ => rfl)
        (R := [])
        (fun k => Asrt.all [Asrt.pure (k < K), Asrt.obj b9 (.cells #[.int .i64 K] 3 (0, 0)), Asrt.obj b10 (.cells #[.int .i64 (k : Int)] 3 (0, 0))])
        (fun k a' => Asrt.ex fun X : List UInt8 => Asrt.all [Asrt.pure (k < K ∧ a' = { tmps := #[.slice la n lc, .int .u8 mo, undef, undef, u4, .pointer (some ⟨p, 0, none⟩), .int .i64 0, .int .i64 i, .func (.func 27) #[] #[.pointer (some ⟨bq, 0, none⟩)], .pointer (some ⟨b9, 0, none⟩), .pointer (some ⟨b10, 0, none⟩), undef, undef, .bool true, .bool false, .slice la n lc, .int .i64 n, .bool false, .tuple #[.pointer (some ⟨p, 0, none⟩), .int .i64 0], .tuple #[.pointer (some ⟨p, 0, none⟩), .int .i64 0], .pointer (some ⟨p, 0, none⟩), .int .i64 0, .pointer (some ⟨p, 0, none⟩), .bool false, .int .i64 i, .slice la n lc, .int .i64 n, .bool false, u28, u29, u30, u31, u32, u33, u34, u35, u36, u37, u38, u39, u40, u41, .pointer (some ⟨p, 0, none⟩), .func (.func 27) #[] #[.pointer (some ⟨bq, 0, none⟩)], .func (.func 27) #[] #[.pointer (some ⟨bq, 0, none⟩)], .bool false, .int .u8 mo, .int .u8 m6, .int .i64 m6, .int .i64 K, .func (.func 27) #[] #[.pointer (some ⟨bq, 0, none⟩)], .string (bstr X), undef, undef, undef, undef, undef, undef, undef, undef, undef, undef, undef, undef, undef, undef, undef, undef, undef, undef, undef, undef, undef, undef, undef, undef, undef, undef, undef, undef, undef], defers := [] }), Asrt.obj b9 (.cells #[.int .i64 K] 3 (0, 0)), Asrt.obj b10 (.cells #[.int .i64 (k : Int)] 3 (0, 0))])
        (fun c => Asrt.all [Asrt.pure (c = .exit 2 ∧ K ≤ T.L.length), Asrt.obj b9 (.cells #[.int .i64 K] 3 (0, 0)), Asrt.obj b10 (.cells #[.int .i64 (K : Int)] 3 (0, 0))]) ?start ?assign ?body ?done ?stop
      case start =>
        have h5 := (Owns.allI (L := [_, _]) (H4.out.ord [2, 2])).ord [2, 1]
        exact Owns.allI (L := [_, _, _]) (Owns.pureI h5 (by omega))
      case assign =>
        intro l' k W Kk Z hk HW hkk
        obtain ⟨X, hX⟩ : ∃ X, X = ptx T.first T.added (pcAt T.L k) := ⟨_, rfl⟩
        simp only [← hX]
        obtain ⟨hkK, HW⟩ := (Owns.allE (L := [_, _, _]) HW).pureE
        have HW1 := Lib.hid HW
        have Hkk := Lib.hid hkk
        clear HW hkk hX
        gi_wp2
        exact Hkk.out _ _ (Owns.exI X (Owns.allI (L := [_, _, _]) (Owns.pureI HW1.out ⟨hkK, rfl⟩)))
      case body =>
        intro l' k a' W Z hk HW
        obtain ⟨X, HW⟩ := HW.exE
        obtain ⟨⟨hkK, rfl⟩, HW'⟩ := (Owns.allE (L := [_, _, _]) HW).pureE
        have d10 : W.cell? ⟨b10, 0, none⟩ = some (.int .i64 (k : Int)) := HW'.p1.cell (j := 0) rfl
        have g10 : W.frozen? ⟨b10, 0, none⟩ = false := HW'.p1.frozen 0
        have h6 := HW'.p1.set 0 (.int .i64 ((k : Int) + 1))
        have c10 : (W.setCell ⟨b10, 0, none⟩ (.int .i64 ((k : Int) + 1))).cell? ⟨b10, 0, none⟩ = some (.int .i64 ((k : Int) + 1)) := h6.cell (j := 0) rfl
        have c9 : (W.setCell ⟨b10, 0, none⟩ (.int .i64 ((k : Int) + 1))).cell? ⟨b9, 0, none⟩ = some (.int .i64 (K : Int)) := h6.p1.cell (j := 0) rfl
        have hwk : IntKind.i64.wrap ((k : Int) + 1) = (k : Int) + 1 := by rw [IntKind.wrap_i64]; omega
        have H6 := Lib.hid h6.p1
        clear HW HW' h6
        by_cases hge : (K : Int) ≤ (k : Int) + 1
        · gi_wp2_with fail
          show Owns w _ (Asrt.all [Asrt.pure (Code.exit 2 = Code.exit 2 ∧ K ≤ T.L.length), Asrt.obj b9 (.cells #[.int .i64 K] 3 (0, 0)), Asrt.obj b10 (.cells #[.int .i64 (K : Int)] 3 (0, 0))] :: Z :: [])
          exact Owns.allI (L := [_, _, _]) (Owns.pureI (by rw [show (K : Int) = (k : Int) + 1 by omega] at H6 ⊢; exact H6.out) ⟨rfl, by omega⟩)
        · have hge' : decide ((K : Int) ≤ (k : Int) + 1) = false := by simp; omega
          gi_wp2_with fail
          show Owns w _ (Asrt.all [Asrt.pure (k + 1 < K), Asrt.obj b9 (.cells #[.int .i64 K] 3 (0, 0)), Asrt.obj b10 (.cells #[.int .i64 ((k + 1 : Nat) : Int)] 3 (0, 0))] :: Z :: [])
          exact Owns.allI (L := [_, _, _]) (Owns.pureI (by rw [Int.natCast_add]; exact H6.out) (by omega))
      case done =>
        intro D W HW
        obtain ⟨hNK, h⟩ := (Owns.allE (L := [_, _, _]) HW).pureE
        have hmin : min (K : Int) (T.L.length : Int) = (T.L.length : Int) := by omega
        have hts : T.size = tx.length := HI.out.size
        have hok := HI.out.ok
        have h5 : Owns w W (tabA p T :: _) := ((Owns.allE (L := [_, _]) (h.ord [3])).p1)
        have l1 := clen h5
        have s1 := cslice 0 tx.length h5 hok (by omega)
        rw [HI.out.htx, List.drop_zero, List.take_of_length_le (Nat.le_refl _)] at s1
        rw [hts] at l1
        have L1 := Lib.hid l1
        have S1 := Lib.hid s1
        clear HW h h5 l1 s1 hts hok
        go_wp2_with fail
        refine L1.out.mono ?_
        rintro e5 w5 ⟨rfl, rfl⟩
        go_wp2_with fail
        refine S1.out.mono ?_
        rintro e5 w5 ⟨rfl, h6⟩
        have k9 : w5.cell? ⟨b9, 0, none⟩ = some (.int .i64 (K : Int)) := (h6.ord [2]).cell (j := 0) rfl
        have k10 : w5.cell? ⟨b10, 0, none⟩ = some (.int .i64 (T.L.length : Int)) := (h6.ord [3]).cell (j := 0) rfl
        have l2 := cpieces h6.drew
        have l3 := cedits h6.drew
        rw [HI.out.hed] at l3
        have l4 := whole_I h6.drew HI.out
        have L2 := Lib.hid l2
        have L3 := Lib.hid l3
        have L4 := Lib.hid l4
        clear h6 l2 l3 l4 L1 S1
        go_upto_region 22 with (fail)
        go_region_held3 (fun w' => w'.cell? ⟨b9, 0, none⟩ = some (.int .i64 (K : Int)) ∧ w'.cell? ⟨b10, 0, none⟩ = some (.int .i64 (T.L.length : Int))) (first | with_reducible exact ⟨k9, k10⟩ | with_reducible exact ⟨t9, t10⟩ | go_keep)
          (first
            | (go_at_call 16; refine L2.out.mono ?_; rintro e6 w6 ⟨rfl, rfl⟩)
            | (go_at_call 17; refine L3.out.mono ?_; rintro e6 w6 ⟨rfl, rfl⟩)
            | (go_at_call 13; refine L4.out.mono ?_; rintro e6 w7 ⟨rfl, h7⟩; have t9 : w7.cell? ⟨b9, 0, none⟩ = some (.int .i64 (K : Int)) := (h7.ord [2]).cell (j := 0) rfl; have t10 : w7.cell? ⟨b10, 0, none⟩ = some (.int .i64 (T.L.length : Int)) := (h7.ord [3]).cell (j := 0) rfl; have H7 := Lib.hid h7; clear h7))
        go_wp2_with fail
        refine leaves_own [D] _ (H7.out.ord [4]) (fun w' hw' => ?_)
        exact ⟨.bool true, by simp [results, Try.f5, go_sem], rfl, hw'.below⟩
      case stop =>
        intro D c W HW
        obtain ⟨⟨rfl, hKN⟩, h⟩ := (Owns.allE (L := [_, _, _]) HW).pureE
        have hmin : min (K : Int) (T.L.length : Int) = (K : Int) := by omega
        have hts : T.size = tx.length := HI.out.size
        have hok := HI.out.ok
        have h5 : Owns w W (tabA p T :: _) := ((Owns.allE (L := [_, _]) (h.ord [3])).p1)
        have l1 := clen h5
        have s1 := cslice 0 tx.length h5 hok (by omega)
        rw [HI.out.htx, List.drop_zero, List.take_of_length_le (Nat.le_refl _)] at s1
        rw [hts] at l1
        have L1 := Lib.hid l1
        have S1 := Lib.hid s1
        clear HW h h5 l1 s1 hts hok
        go_wp2_with fail
        refine L1.out.mono ?_
        rintro e5 w5 ⟨rfl, rfl⟩
        go_wp2_with fail
        refine S1.out.mono ?_
        rintro e5 w5 ⟨rfl, h6⟩
        have k9 : w5.cell? ⟨b9, 0, none⟩ = some (.int .i64 (K : Int)) := (h6.ord [2]).cell (j := 0) rfl
        have k10 : w5.cell? ⟨b10, 0, none⟩ = some (.int .i64 (K : Int)) := (h6.ord [3]).cell (j := 0) rfl
        have l2 := cpieces h6.drew
        have l3 := cedits h6.drew
        rw [HI.out.hed] at l3
        have l4 := whole_I h6.drew HI.out
        have L2 := Lib.hid l2
        have L3 := Lib.hid l3
        have L4 := Lib.hid l4
        clear h6 l2 l3 l4 L1 S1
        go_upto_region 22 with (fail)
        go_region_held3 (fun w' => w'.cell? ⟨b9, 0, none⟩ = some (.int .i64 (K : Int)) ∧ w'.cell? ⟨b10, 0, none⟩ = some (.int .i64 (K : Int))) (first | with_reducible exact ⟨k9, k10⟩ | with_reducible exact ⟨t9, t10⟩ | go_keep)
          (first
            | (go_at_call 16; refine L2.out.mono ?_; rintro e6 w6 ⟨rfl, rfl⟩)
            | (go_at_call 17; refine L3.out.mono ?_; rintro e6 w6 ⟨rfl, rfl⟩)
            | (go_at_call 13; refine L4.out.mono ?_; rintro e6 w7 ⟨rfl, h7⟩; have t9 : w7.cell? ⟨b9, 0, none⟩ = some (.int .i64 (K : Int)) := (h7.ord [2]).cell (j := 0) rfl; have t10 : w7.cell? ⟨b10, 0, none⟩ = some (.int .i64 (K : Int)) := (h7.ord [3]).cell (j := 0) rfl; have H7 := Lib.hid h7; clear h7))
        go_wp2_with fail
        refine leaves_own [D] _ (H7.out.ord [4]) (fun w' hw' => ?_)
        exact ⟨.bool true, by simp [results, Try.f5, go_sem], rfl, hw'.below⟩
end Go.Proofs.Ytdlcmehopnhmgaa
