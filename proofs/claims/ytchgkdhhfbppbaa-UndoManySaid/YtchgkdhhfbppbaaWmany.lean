/- The law UndoMany on values that read. -/
import Derived.Test.YtchgkdhhfbppbaaWU
import Derived.Test.YtchgkdhhfbppbaaRead
namespace Go.Proofs.Ytchgkdhhfbppbaa
open Go Go.RowKit Go.Fol
attribute [local go_sem ↓] run_min2 run_max2
set_option linter.unusedVariables false
set_option linter.unusedSimpArgs false
theorem eqin_pos (x y : Int) (w : World) : (Op.equalIn 10000 29 (.agg #[.int .i64 x, .int .i64 y]) (.agg #[.int .i64 x, .int .i64 y])).run Try.prog w = .ok true w := by
  rw [show (10000 : Nat) = 9998 + 1 + 1 from rfl, run_equalIn_agg (ht := by kernel_rfl) (hp := by kernel_rfl)]
  obtain ⟨a, b, hf, ha, hb, na, nb, oa, ob⟩ : ∃ a b : Field, (Try.prog.fieldsOf 29).toList = [a, b] ∧ a.type = 3 ∧ b.type = 3 ∧ (a.name == "_") = false ∧ (b.name == "_") = false ∧ a.offset = 0 ∧ b.offset = 1 := ⟨(Try.prog.fieldsOf 29)[0]!, (Try.prog.fieldsOf 29)[1]!, by kernel_rfl, by kernel_rfl, by kernel_rfl, by kernel_rfl, by kernel_rfl, by kernel_rfl, by kernel_rfl⟩
  rw [hf]
  generalize (9998 : Nat) = d
  simp only [beq_eq_false_iff_ne, ne_eq] at na nb
  simp [Op.eqFields, go_sem, ha, hb, na, nb, oa, ob]
theorem Owns.left1 {w0 w : World} {A : Asrt} {R : List Asrt} (H : Owns w0 w (A :: R)) : Owns w0 w [A] := H.mem List.mem_cons_self
set_option maxHeartbeats 4000000 in
set_option maxRecDepth 100000 in
theorem undoMany_walk (w : World) (v0 v1 : Value) (a0 : Arg Try.prog w 5 v0) (a1 : Arg Try.prog w 5 v1) :
    Calls Try.prog 4 #[v0, v1] w fun e w' => e = .returned (.bool true) ∧ Below w.heap.size w w' := by
  obtain ⟨n, rfl, hn⟩ := arg_int Try.underlying5 a0
  obtain ⟨k, rfl, hk⟩ := arg_int Try.underlying5 a1
  obtain ⟨hn0, hn1⟩ := wf_u8 hn
  obtain ⟨hk0, hk1⟩ := wf_u8 hk
  clear a0 a1 hn hk
  go_enter Try.func4, Try.ntmps4
  go_wp2_with fail
  refine (known_true (Owns.start w)).mono ?_
  rintro e w1 ⟨rfl, h1⟩
  have H1 := Lib.hid h1
  clear h1
  go_wp2_with fail
  all_goals first | (go_ret; exact ⟨rfl, H1.out.below⟩) | skip
  refine (unew H1.out).mono ?_
  rintro e w2 ⟨p, rfl, h2⟩
  have H2 := Lib.hid h2
  clear h2 H1
  go_wp2_with fail
  obtain ⟨c, hc⟩ : ∃ c : Nat, n % 40 = (c : Int) := ⟨(n % 40).toNat, by omega⟩
  have hc40 : c ≤ 39 := by omega
  rw [hc]
  have Hc := Lib.hid hc
  clear hc
  go_loopw [7] (fun q wr => ∃ (i : Nat) (G : List Gr), i ≤ c ∧ q = .int .i64 i ∧ gdatL G = gI i ∧ Owns w wr [Asrt.hist p G G.length none]) (fun q _ => c - (intOf q).toNat)
  case atStart => exact ⟨0, [], Nat.zero_le _, rfl, rfl, H2.out⟩
  case round =>
    obtain ⟨i, G, hi, rfl, hG, h3⟩ := hrel
    have hGl : G.length = min i 16 := by have := congrArg List.length hG; simpa [gI_len] using this
    have H3 := Lib.hid h3
    have HG := Lib.hid hG
    have HGl := Lib.hid hGl
    clear h3 hG hGl H2
    by_cases hlt : i < c
    · go_wp2_with fail
      refine (ubegin i 0 H3.out).mono ?_
      rintro e w4 ⟨rfl, h4⟩
      have H4 := Lib.hid h4
      clear h4 H3
      go_wp2_with fail
      have h5 := (H4.out.alloc #[.string ⟨#[120]⟩] 9).alloc #[.int .i64 i, .slice none 0 0, .slice (some ⟨w4.heap.size, 0, none⟩) 1 1] 49
      rw [World.size_alloc] at h5
      refine (uadd h5.p2 (ChRd.lit1 (t2 := 9) (x := i) (s := ⟨#[120]⟩) (b2 := w4.heap.size) List.mem_cons_self (by simp)) (by simp [OkL, ChOk, Ch.dat]) (by simp) (by simp)).mono ?_
      rintro e w5 ⟨g, rfl, h6⟩
      obtain ⟨hg, h6⟩ := h6.pureE
      have hgl : g.L.length = 1 := by
        have := congrArg (fun d : GD => d.2.2.length) hg
        simpa [Gr.dat] using this
      have H6 := Lib.hid h6
      have Hg := Lib.hid hg
      clear h5 h6 hg H4
      go_wp2_with fail
      refine (ucommit i 1 H6.out (by omega) (by omega) (Nat.le_refl _) (by have := HGl.out; omega)).mono ?_
      rintro e w6 ⟨rfl, h7⟩
      have H7 := Lib.hid (Owns.left1 h7)
      have hgd : ({ g with tl := (i : Int), tc := 1 } : Gr).dat = fD i := by
        have h := Hg.out
        simp only [Gr.dat, Prod.mk.injEq] at h
        obtain ⟨⟨e1, e2⟩, _, e3⟩ := h
        show ((g.fl, g.fc), ((i : Int), (1 : Int)), datL g.L) = fD i
        rw [e1, e2, e3]
        rfl
      have hst : gdatL (comL G G.length { g with tl := (i : Int), tc := 1 }) = gI (i + 1) := by
        have hl : G.length = (gI i).length := by rw [gI_len]; exact HGl.out
        rw [gdatL, comL_map, hgd]
        show comL (gdatL G) _ _ = _
        rw [HG.out, hl, gI_step]
      have Hst := Lib.hid hst
      clear h7 hgd hst H6
      go_wp2_with fail
      go_roundw
      case rel => exact ⟨i + 1, _, by omega, by go_num, Hst.out, H7.out⟩
      case measure => simp [intOf]; omega
    · obtain rfl : i = c := by omega
      go_wp2_with fail
      obtain ⟨m, hm⟩ : ∃ m : Nat, min (i : Int) 16 = (m : Int) := ⟨min i 16, by omega⟩
      have hmi : m ≤ i := by omega
      have hm16 : m ≤ 16 := by omega
      have hGm : G.length = m := by have := HGl.out; omega
      rw [hm]
      have hb0 : 0 ≤ k % ((m : Int) + 1) := Int.emod_nonneg _ (by omega)
      have hb1 : k % ((m : Int) + 1) < (m : Int) + 1 := Int.emod_lt_of_pos _ (by omega)
      obtain ⟨b, hb⟩ : ∃ b : Nat, k % ((m : Int) + 1) = (b : Int) := ⟨(k % ((m : Int) + 1)).toNat, by omega⟩
      have hbm : b ≤ m := by omega
      rw [hb]
      have hget : ∀ d, d < m → ∃ g, G[d]? = some g ∧ g.dat = fD (i - m + d) := fun d hd => by
        have hmm : m = min i 16 := by omega
        exact gdat_get HG.out (by rw [gI_get (by omega), hmm])
      have Hget := Lib.hid hget
      have Hm := Lib.hid hm
      have Hb := Lib.hid hb
      have HGm := Lib.hid hGm
      have hG16 : G.length ≤ 16 := by omega
      have hG1 : m ≤ G.length := by omega
      have h3' := H3.out
      rw [hGm] at h3'
      have H4 := Lib.hid h3'
      clear hget hm hb0 hb1 hb hGm h3' H3 HGl HG Hc
      go_loopw [10] (fun q wr => ∃ j : Nat, j ≤ b ∧ q = .int .i64 j ∧ Owns w wr [Asrt.hist p G (m - j) none]) (fun q _ => b - (intOf q).toNat)
      case atStart => exact ⟨0, Nat.zero_le _, rfl, H4.out⟩
      case round =>
        obtain ⟨j, hj, rfl, h5⟩ := hrel
        have H5 := Lib.hid h5
        clear h5 H4
        by_cases hlj : j < b
        · obtain ⟨g, hg, hgd⟩ := Hget.out (m - j - 1) (by omega)
          have h5 := H5.out
          rw [show m - j = (m - j - 1) + 1 by omega] at h5
          obtain ⟨z, hz⟩ : ∃ z : Nat, z = i - m + (m - j - 1) := ⟨_, rfl⟩
          rw [← hz] at hgd
          simp only [Gr.dat, fD, Prod.mk.injEq] at hgd
          obtain ⟨⟨e1, e2⟩, _, e3⟩ := hgd
          have hgl : g.L.length = 1 := by have := congrArg List.length e3; simpa using this
          have hun := uundo h5 hg hG16 (by rw [e3]; simp [OkL, ChOk]) (by omega)
          rw [e1, e2] at hun
          have Hun := Lib.hid hun
          have He3 := Lib.hid e3
          have hzz : (i : Int) - 1 - (j : Int) = (z : Int) := by omega
          clear h5 hun hg e1 e2 e3 hgl hz
          go_wp2_with fail
          refine Hun.out.mono ?_
          rintro e w6 ⟨⟨v6, M⟩, rfl, h6⟩
          obtain ⟨hM, h6⟩ := h6.pureE
          dsimp only at hM h6 ⊢
          rw [He3.out] at hM
          obtain ⟨cc, rfl, hcd⟩ := ch_one hM
          obtain ⟨va, vc, rfl⟩ := row_slice h6.row
          obtain ⟨bb, rfl, hvc, x0, x1, x2⟩ := row_cell h6
          simp only [Ch.dat, invD, Prod.mk.injEq] at hcd
          obtain ⟨f1, f2, f3⟩ := hcd
          have hol : cc.old.length = 1 := by rw [f2]; rfl
          dsimp only [Ch.ov, Ch.nv] at x1 x2
          rw [f1] at x0
          rw [hol] at x1
          have h7 := (h6.ord [2]).alloc #[.int .i64 (z : Int), .int .i64 0] 29
          have y0 : (w6.alloc (.cells #[.int .i64 (z : Int), .int .i64 0] 29)).cell? ⟨bb, 0, none⟩ = some (.int .i64 (z : Int)) := cell_alloc x0 _
          have y1 : (w6.alloc (.cells #[.int .i64 (z : Int), .int .i64 0] 29)).cell? ⟨bb, 1, none⟩ = _ := cell_alloc x1 _
          have p0 : (w6.alloc (.cells #[.int .i64 (z : Int), .int .i64 0] 29)).cell? ⟨w6.heap.size, 0, none⟩ = some (.int .i64 (z : Int)) := h7.cell (j := 0) rfl
          have H7 := Lib.hid (Owns.left1 h7.p1)
          clear h6 h7 hM x2 Hun H5 f1 f2 f3 hol
          go_wp2_with fail
          go_roundw
          case rel => exact ⟨j + 1, by omega, by go_num, by rw [← Nat.sub_sub]; exact H7.out⟩
          case measure => simp [intOf]; omega
        · obtain rfl : j = b := by omega
          obtain ⟨d, hd⟩ : ∃ d, d = m - j := ⟨_, rfl⟩
          have h5 := H5.out
          rw [← hd] at h5
          have hdp := udepth h5 (by omega) (by omega)
          have hd1 : (G.length : Int) - d = j := by have := HGm.out; omega
          rw [hd1] at hdp
          have Hdp := Lib.hid hdp
          have hd2 : (m : Int) - j = d := by omega
          have Hd := Lib.hid hd
          clear h5 hdp hd1 H5 hd
          go_wp2_with fail
          refine Hdp.out.mono ?_
          rintro e w6 ⟨rfl, h6⟩
          have H6 := Lib.hid h6
          clear h6 Hdp
          go_wp2_with fail
          go_loopw [16] (fun q wr => ∃ r : Nat, r ≤ j ∧ q = .int .i64 ((r : Int) - 1) ∧ Owns w wr [Asrt.hist p G (m - r) none]) (fun q _ => (intOf q + 1).toNat)
          case atStart => exact ⟨j, Nat.le_refl _, rfl, by rw [← Hd.out]; exact H6.out⟩
          case round =>
            obtain ⟨r, hr, rfl, h7⟩ := hrel
            have H7 := Lib.hid h7
            clear h7 H6
            by_cases hr0 : r = 0
            · subst hr0
              have h7 := H7.out
              rw [Nat.sub_zero, ← HGm.out] at h7
              have hro := uredo_out h7
              have Hro := Lib.hid hro
              clear h7 hro H7
              go_wp2_with fail
              refine Hro.out.mono ?_
              rintro e w8 ⟨rfl, h8⟩
              have H8 := Lib.hid h8
              clear h8
              go_wp2_with fail
              go_ret
              exact ⟨rfl, (H8.out.alloc0 _).below⟩
            · have hr1 : (0 : Int) ≤ (r : Int) - 1 := by omega
              obtain ⟨g, hg, hgd⟩ := Hget.out (m - r) (by omega)
              obtain ⟨z, hz⟩ : ∃ z : Nat, z = i - m + (m - r) := ⟨_, rfl⟩
              rw [← hz] at hgd
              simp only [Gr.dat, fD, Prod.mk.injEq] at hgd
              obtain ⟨_, ⟨e1, e2⟩, e3⟩ := hgd
              have hgl : g.L.length = 1 := by have := congrArg List.length e3; simpa using this
              have hun := uredo H7.out hg hG16 (by rw [e3]; simp [OkL, ChOk]) (by omega)
              rw [e1, e2] at hun
              have Hun := Lib.hid hun
              have He3 := Lib.hid e3
              have hzz : (i : Int) - 1 - ((r : Int) - 1) = (z : Int) := by omega
              have heq := fun w => eqin_pos z 1 w
              clear hun hg e1 e2 e3 hgl hz H7
              go_wp2_with fail
              refine Hun.out.mono ?_
              rintro e w8 ⟨⟨v8, M⟩, rfl, h8⟩
              obtain ⟨hM, h8⟩ := h8.pureE
              dsimp only at hM h8 ⊢
              rw [He3.out] at hM
              obtain ⟨cc, rfl, hcd⟩ := ch_one hM
              obtain ⟨va, vc, rfl⟩ := row_slice h8.row
              obtain ⟨bb, rfl, hvc, x0, x1, x2⟩ := row_cell h8
              simp only [Ch.dat, Prod.mk.injEq] at hcd
              obtain ⟨f1, f2, f3⟩ := hcd
              have hnl : cc.new.length = 1 := by rw [f3]; rfl
              dsimp only [Ch.ov, Ch.nv] at x1 x2
              rw [f1] at x0
              rw [hnl] at x2
              have h9 := (h8.ord [2]).alloc #[.int .i64 (z : Int), .int .i64 1] 29
              have y0 : (w8.alloc (.cells #[.int .i64 (z : Int), .int .i64 1] 29)).cell? ⟨bb, 0, none⟩ = some (.int .i64 (z : Int)) := cell_alloc x0 _
              have y2 : (w8.alloc (.cells #[.int .i64 (z : Int), .int .i64 1] 29)).cell? ⟨bb, 2, none⟩ = _ := cell_alloc x2 _
              have p0 : (w8.alloc (.cells #[.int .i64 (z : Int), .int .i64 1] 29)).cell? ⟨w8.heap.size, 0, none⟩ = some (.int .i64 (z : Int)) := h9.cell (j := 0) rfl
              have p1 : (w8.alloc (.cells #[.int .i64 (z : Int), .int .i64 1] 29)).cell? ⟨w8.heap.size, 1, none⟩ = some (.int .i64 1) := h9.cell (j := 1) rfl
              have H9 := Lib.hid (Owns.left1 h9.p1)
              clear h8 h9 hM x1 Hun f1 f2 f3 hnl
              go_wp2_with fail
              go_roundw
              case rel => exact ⟨r - 1, by omega, by congr 1; omega, by rw [show m - (r - 1) = m - r + 1 by omega]; exact H9.out⟩
              case measure => simp [intOf]; omega
end Go.Proofs.Ytchgkdhhfbppbaa
