/- The law UndoForgets on values that read. -/
import Derived.Test.YtchgkdhhfbppbaaWU
import Derived.Test.YtchgkdhhfbppbaaRead
namespace Go.Proofs.Ytchgkdhhfbppbaa
open Go Go.RowKit Go.Fol
set_option linter.unusedVariables false
set_option linter.unusedSimpArgs false
/-- the group of number j. -/
def eD (j : Nat) : GD := ((0, 0), (0, 0), [((j : Int), [], [])])
def eI (i : Nat) : List GD := (List.range i).map eD
theorem eI_len (i : Nat) : (eI i).length = i := by simp [eI]
theorem eI_step {i : Nat} (h : i < 16) : comL (eI i) (eI i).length (eD i) = eI (i + 1) := by
  rw [comL, List.take_of_length_le (Nat.le_refl _)]
  rw [show (eI i ++ [eD i]).length - 16 = 0 by simp [eI]; omega, List.drop_zero, eI, eI, List.range_succ, List.map_append]; rfl
theorem eI_get {i d : Nat} (hd : d < i) : (eI i)[d]? = some (eD d) := by
  rw [eI, List.getElem?_map, List.getElem?_range hd]; rfl
theorem keep1 {w0 w : World} {A : Asrt} {R : List Asrt} (H : Owns w0 w (A :: R)) : Owns w0 w [A] := H.mem List.mem_cons_self
set_option maxHeartbeats 4000000 in
set_option maxRecDepth 100000 in
theorem undoForgets_walk (w : World) (v0 v1 v2 : Value) (a0 : Arg Try.prog w 5 v0) (a1 : Arg Try.prog w 5 v1) (a2 : Arg Try.prog w 4 v2) :
    Calls Try.prog 5 #[v0, v1, v2] w fun e w' => e = .returned (.bool true) ∧ Below w.heap.size w w' := by
  obtain ⟨n, rfl, hn⟩ := arg_int Try.underlying5 a0
  obtain ⟨k, rfl, hk⟩ := arg_int Try.underlying5 a1
  obtain ⟨em, rfl⟩ := arg_bool Try.underlying4 a2
  obtain ⟨hn0, hn1⟩ := wf_u8 hn
  obtain ⟨hk0, hk1⟩ := wf_u8 hk
  clear a0 a1 a2 hn hk
  go_enter Try.func5, Try.ntmps5
  go_wp2_with fail
  refine (known_true (Owns.start w)).mono ?_
  rintro e w1 ⟨rfl, h1⟩
  have H1 := Lib.hid h1
  clear h1
  go_wp2_with fail
  all_goals first | (go_ret; exact ⟨rfl, H1.out.below⟩) | skip
  refine (unew H1.out).mono ?_
  rintro e w2 ⟨p, rfl, h2⟩
  have H2 := Lib.hid h2
  clear h2 H1
  go_wp2_with fail
  obtain ⟨c, hc⟩ : ∃ c : Nat, n % 14 + 1 = (c : Int) := ⟨(n % 14 + 1).toNat, by omega⟩
  have hc1 : 1 ≤ c := by omega
  have hc14 : c ≤ 14 := by omega
  rw [hc]
  have hb0 : 0 ≤ k % (c : Int) := Int.emod_nonneg _ (by omega)
  have hb1 : k % (c : Int) < (c : Int) := Int.emod_lt_of_pos _ (by omega)
  obtain ⟨b, hb⟩ : ∃ b : Nat, wrap64 (k % (c : Int) + 1) = (b : Int) := ⟨(k % (c : Int) + 1).toNat, by unfold wrap64; omega⟩
  have hbc : 1 ≤ b ∧ b ≤ c := by unfold wrap64 at hb; omega
  obtain ⟨hb1', hbc⟩ := hbc
  rw [hb]
  clear hc hb hb0 hb1
  go_loopw [10] (fun q wr => ∃ (i : Nat) (G : List Gr), i ≤ c ∧ q = .int .i64 i ∧ gdatL G = eI i ∧ Owns w wr [Asrt.hist p G G.length none]) (fun q _ => c - (intOf q).toNat)
  case atStart => exact ⟨0, [], Nat.zero_le _, rfl, rfl, H2.out⟩
  case round =>
    obtain ⟨i, G, hi, rfl, hG, h3⟩ := hrel
    have hGl : G.length = i := by have := congrArg List.length hG; simpa [eI_len] using this
    have H3 := Lib.hid h3
    have HG := Lib.hid hG
    have HGl := Lib.hid hGl
    clear h3 hG hGl H2
    by_cases hlt : i < c
    · go_wp2_with fail
      refine (ubegin 0 0 H3.out).mono ?_
      rintro e w4 ⟨rfl, h4⟩
      have H4 := Lib.hid h4
      clear h4 H3
      go_wp2_with fail
      have h5 := (H4.out.alloc #[.int .i64 i, .slice none 0 0, .slice none 0 0] 49)
      refine (uadd h5.p1 (ChRd.lit0 (x := i) List.mem_cons_self) (by simp [OkL, ChOk, Ch.dat]) (by simp) (by simp)).mono ?_
      rintro e w5 ⟨g, rfl, h6⟩
      obtain ⟨hg, h6⟩ := h6.pureE
      have hgl : g.L.length = 1 := by
        have := congrArg (fun d : GD => d.2.2.length) hg
        simpa [Gr.dat] using this
      have H6 := Lib.hid h6
      have Hg := Lib.hid hg
      clear h5 h6 hg H4
      go_wp2_with fail
      refine (ucommit 0 0 H6.out (by omega) (by omega) (Nat.le_refl _) (by have := HGl.out; omega)).mono ?_
      rintro e w6 ⟨rfl, h7⟩
      have H7 := Lib.hid (keep1 h7)
      have hgd : ({ g with tl := 0, tc := 0 } : Gr).dat = eD i := by
        have h := Hg.out
        simp only [Gr.dat, Prod.mk.injEq] at h
        obtain ⟨⟨e1, e2⟩, _, e3⟩ := h
        show ((g.fl, g.fc), ((0 : Int), (0 : Int)), datL g.L) = eD i
        rw [e1, e2, e3]
        rfl
      have hst : gdatL (comL G G.length { g with tl := 0, tc := 0 }) = eI (i + 1) := by
        have hl : G.length = (eI i).length := by rw [eI_len]; exact HGl.out
        rw [gdatL, comL_map, hgd]
        show comL (gdatL G) _ _ = _
        rw [HG.out, hl, eI_step (by omega)]
      have Hst := Lib.hid hst
      clear h7 hgd hst H6
      go_wp2_with fail
      go_roundw
      case rel => exact ⟨i + 1, _, by omega, by go_num, Hst.out, H7.out⟩
      case measure => simp [intOf]; omega
    · obtain rfl : i = c := by omega
      have hget : ∀ d, d < i → ∃ g, G[d]? = some g ∧ g.dat = eD d := fun d hd => gdat_get HG.out (eI_get hd)
      have Hget := Lib.hid hget
      have hG16 : G.length ≤ 16 := by have := HGl.out; omega
      have h3' := H3.out
      rw [HGl.out] at h3'
      have H4 := Lib.hid h3'
      clear hget h3' H3 HG
      go_wp2_with fail
      go_loopw [11] (fun q wr => ∃ j : Nat, j ≤ b ∧ q = .int .i64 j ∧ Owns w wr [Asrt.hist p G (i - j) none]) (fun q _ => b - (intOf q).toNat)
      case atStart => exact ⟨0, Nat.zero_le _, rfl, H4.out⟩
      case round =>
        obtain ⟨j, hj, rfl, h5⟩ := hrel
        have H5 := Lib.hid h5
        clear h5 H4
        by_cases hlj : j < b
        · obtain ⟨g, hg, hgd⟩ := Hget.out (i - j - 1) (by omega)
          have h5 := H5.out
          rw [show i - j = (i - j - 1) + 1 by omega] at h5
          simp only [Gr.dat, eD, Prod.mk.injEq] at hgd
          obtain ⟨⟨e1, e2⟩, _, e3⟩ := hgd
          have hgl : g.L.length = 1 := by have := congrArg List.length e3; simpa using this
          have hun := uundo h5 hg hG16 (by rw [e3]; simp [OkL, ChOk]) (by omega)
          have Hun := Lib.hid hun
          clear h5 hun hg e1 e2 e3 hgl
          go_wp2_with fail
          refine Hun.out.mono ?_
          rintro e w6 ⟨⟨v6, M⟩, rfl, h6⟩
          dsimp only at h6 ⊢
          have h7 := (h6.ord [3]).alloc0 (.cells #[.int .i64 g.fl, .int .i64 g.fc] 29)
          obtain ⟨va, vc, rfl⟩ := row_slice h6.drop.row
          have H7 := Lib.hid (keep1 h7)
          clear h6 h7 Hun H5
          go_wp2_with fail
          go_roundw
          case rel => exact ⟨j + 1, by omega, by go_num, by rw [← Nat.sub_sub]; exact H7.out⟩
          case measure => simp [intOf]; omega
        · obtain rfl : j = b := by omega
          obtain ⟨d, hd⟩ : ∃ d, d = i - j := ⟨_, rfl⟩
          have h5 := H5.out
          rw [← hd] at h5
          have hdi : (i : Int) - j = d := by omega
          have hdl : d ≤ G.length := by have := HGl.out; omega
          have hdg : (G.length : Int) - d = j := by have := HGl.out; omega
          have hd14 : d ≤ 13 := by omega
          have hbe := ubegin 9 0 h5
          have hun : ∀ W, Owns w W [Asrt.hist p G d (some ⟨9, 0, 0, 0, none, 0, []⟩)] → Calls Try.prog 14 #[.pointer (some ⟨p, 0, none⟩)] W (Ret (.tuple #[.slice none 0 0, .agg #[.int .i64 0, .int .i64 0], .bool false]) w [Asrt.hist p G d (some ⟨9, 0, 0, 0, none, 0, []⟩)]) := fun W HW => by
            cases d with
            | zero => exact uundo_out HW
            | succ d =>
              obtain ⟨g, hg, _⟩ := Hget.out d (by omega)
              exact uundo_open HW hg hG16
          have Hbe := Lib.hid hbe
          have Hun := Lib.hid hun
          have Hd := Lib.hid hd
          have Hdg := Lib.hid hdg
          clear h5 hbe hun H5 hd hdg
          go_wp2_with fail
          refine Hbe.out.mono ?_
          rintro e w6 ⟨rfl, h6⟩
          have H6 := Lib.hid h6
          clear h6 Hbe
          go_wp2_with fail
          refine (Hun.out _ H6.out).mono ?_
          rintro e w7 ⟨rfl, h7⟩
          have H7 := Lib.hid (h7.alloc0 (.cells #[.int .i64 0, .int .i64 0] 29))
          clear h7 Hun H6
          cases em with
          | true =>
            go_wp2_with fail
            refine (ucommit_empty 0 0 H7.out rfl).mono ?_
            rintro e w8 ⟨rfl, h8⟩
            have hdp := udepth h8 hdl (by omega)
            rw [Hdg.out] at hdp
            have Hdp := Lib.hid hdp
            clear h8 hdp H7
            go_wp2_with fail
            refine Hdp.out.mono ?_
            rintro e w9 ⟨rfl, h9⟩
            have H9 := Lib.hid h9
            clear h9 Hdp
            go_wp2_with fail
            go_ret
            exact ⟨rfl, H9.out.below⟩
          | false =>
            have h8 := H7.out.alloc #[.int .i64 99, .slice none 0 0, .slice none 0 0] 49
            have had := uadd h8.p1 (ChRd.lit0 (x := 99) List.mem_cons_self) (by simp [OkL, ChOk, Ch.dat]) (by simp) (by simp)
            rw [World.size_alloc] at had
            have Had := Lib.hid had
            clear h8 had H7
            go_wp2_with fail
            refine Had.out.mono ?_
            rintro e w8 ⟨g, rfl, h9⟩
            obtain ⟨hg, h9⟩ := h9.pureE
            have hgl : g.L.length = 1 := by
              have := congrArg (fun d : GD => d.2.2.length) hg
              simpa [Gr.dat] using this
            have hco := ucommit 0 0 h9 (by omega) (by omega) hdl hG16
            have Hco := Lib.hid hco
            have Hg := Lib.hid hg
            clear h9 hg hco Had
            go_wp2_with fail
            refine Hco.out.mono ?_
            rintro e w9 ⟨rfl, h10⟩
            obtain ⟨g', hg'⟩ : ∃ g', g' = ({ g with tl := 0, tc := 0 } : Gr) := ⟨_, rfl⟩
            rw [← hg'] at h10
            have hle : (comL G d g').length = d + 1 := by rw [comL_len _ _ _ hdl]; omega
            have hget2 : (comL G d g')[d]? = some g' := by
              rw [comL, show (G.take d ++ [g']).length - 16 = 0 by simp; omega, List.drop_zero, List.getElem?_append_right (by simp; omega)]
              simp [Nat.min_eq_left hdl]
            obtain ⟨G2, hG2⟩ : ∃ G2, G2 = comL G d g' := ⟨_, rfl⟩
            rw [← hG2] at h10 hle hget2
            have hfl : g'.fl = 9 := by rw [hg']; have h := congrArg (fun d : GD => d.1.1) Hg.out; simpa [Gr.dat] using h
            have hgL : datL g'.L = [((99 : Int), [], [])] := by rw [hg']; have h := congrArg (fun d : GD => d.2.2) Hg.out; simpa [Gr.dat, Ch.dat] using h
            have hgl2 : g'.L.length = 1 := by rw [hg']; exact hgl
            have hdp := udepth h10 (by omega) (by omega)
            have e1 : (G2.length : Int) - G2.length = 0 := by omega
            rw [e1, hle] at hdp
            have hdp' : Calls Try.prog 19 #[.pointer (some ⟨p, 0, none⟩)] w9 (Ret (.tuple #[.int .i64 ((d : Int) + 1), .int .i64 0]) w (Asrt.hist p G2 (d + 1) none :: [])) := (by simpa using hdp.mono (fun e w' h => ⟨h.1, keep1 h.2⟩))
            have Hdp := Lib.hid hdp'
            have hun2 : ∀ W, Owns w W [Asrt.hist p G2 (d + 1) none] → _ := fun W HW => uundo HW hget2 (by omega) (by rw [hgL]; simp [OkL, ChOk]) (by omega)
            have Hun2 := Lib.hid hun2
            have HgL := Lib.hid hgL
            have hd1 : (i : Int) - j + 1 = (d : Int) + 1 := by omega
            clear h10 hget2 hle hgL e1 hdp hdp' hun2 Hco hG2 hg' hgl2
            go_wp2_with fail
            refine Hdp.out.mono ?_
            rintro e w10 ⟨rfl, h11⟩
            have H11 := Lib.hid h11
            clear h11 Hdp
            go_wp2_with fail
            refine (Hun2.out _ H11.out).mono ?_
            rintro e w11 ⟨⟨v11, M⟩, rfl, h12⟩
            obtain ⟨hM, h12⟩ := h12.pureE
            dsimp only at hM h12 ⊢
            rw [HgL.out] at hM
            obtain ⟨cc, rfl, hcd⟩ := ch_one hM
            obtain ⟨va, vc, rfl⟩ := row_slice h12.row
            obtain ⟨bb, rfl, hvc, x0, x1, x2⟩ := row_cell h12
            simp only [Ch.dat, invD, Prod.mk.injEq] at hcd
            obtain ⟨f1, f2, f3⟩ := hcd
            rw [f1] at x0
            rw [hfl]
            have h13 := h12.alloc #[.int .i64 9, .int .i64 g'.fc] 29
            have y0 : (w11.alloc (.cells #[.int .i64 9, .int .i64 g'.fc] 29)).cell? ⟨bb, 0, none⟩ = some (.int .i64 99) := cell_alloc x0 _
            have p0 : (w11.alloc (.cells #[.int .i64 9, .int .i64 g'.fc] 29)).cell? ⟨w11.heap.size, 0, none⟩ = some (.int .i64 9) := h13.cell (j := 0) rfl
            have H13 := Lib.hid h13
            clear h12 h13 hM x0 x1 x2 H11 Hun2 f1 f2 f3
            go_wp2_with fail
            go_ret
            exact ⟨rfl, H13.out.below⟩
end Go.Proofs.Ytchgkdhhfbppbaa
