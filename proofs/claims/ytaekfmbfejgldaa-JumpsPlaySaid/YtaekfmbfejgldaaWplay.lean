/- The law JumpsPlay on values that read. -/
import Derived.Test.YtaekfmbfejgldaaJR3
import Derived.Test.YtaekfmbfejgldaaRead
import Derived.Test.YtaekfmbfejgldaaWback
namespace Go.Proofs.Ytaekfmbfejgldaa
open Go Go.RowKit Go.Fol
attribute [local go_sem ↓] Go.wp_at_zero Go.wp_at_succ
set_option linter.unusedVariables false
set_option linter.unusedSimpArgs false
theorem act_of {w : World} {es : List Value} (hl : es.length = 7) (h : Rd Try.prog w 44 es) :
    ∃ (a l c n x y z : Int), es = [.int .u8 a, .int .i64 l, .int .i64 c, .int .i64 n, .int .i64 x, .int .i64 y, .int .i64 z] ∧ 0 ≤ a := by
  obtain ⟨e0, e1, e2, e3, e4, e5, e6, rfl⟩ : ∃ e0 e1 e2 e3 e4 e5 e6, es = [e0, e1, e2, e3, e4, e5, e6] := by
    match es, hl with
    | [a, b, c, d, e, f, g], _ => exact ⟨a, b, c, d, e, f, g, rfl⟩
  have hs := (rd_struct Try.underlying44 h).2
  obtain ⟨a, ha, wa⟩ := rd_int Try.underlying5 (hs 0 _ rfl)
  have hp := (rd_struct Try.underlying29 (hs 1 _ rfl)).2
  obtain ⟨l, hl', _⟩ := rd_int Try.underlying3 (hp 0 _ rfl)
  obtain ⟨c, hc, _⟩ := rd_int Try.underlying3 (hp 1 _ rfl)
  obtain ⟨n, hn, _⟩ := rd_int Try.underlying3 (hs 2 _ rfl)
  obtain ⟨x, hx, _⟩ := rd_int Try.underlying3 (hs 3 _ rfl)
  obtain ⟨y, hy, _⟩ := rd_int Try.underlying3 (hs 4 _ rfl)
  obtain ⟨z, hz, _⟩ := rd_int Try.underlying3 (hs 5 _ rfl)
  have ha : [e0] = [.int .u8 a] := ha
  have hl' : [e1] = [.int .i64 l] := hl'
  have hc : [e2] = [.int .i64 c] := hc
  have hn : [e3] = [.int .i64 n] := hn
  have hx : [e4] = [.int .i64 x] := hx
  have hy : [e5] = [.int .i64 y] := hy
  have hz : [e6] = [.int .i64 z] := hz
  cases ha; cases hl'; cases hc; cases hn; cases hx; cases hy; cases hz
  exact ⟨a, l, c, n, x, y, z, rfl, (wf_u8 wa).1⟩
theorem tmod_bd (x : Int) {m : Int} (h : 0 < m) : -m < x.tmod m ∧ x.tmod m < m := ⟨Int.lt_tmod_of_pos x h, Int.tmod_lt_of_pos x h⟩
set_option maxHeartbeats 8000000 in
set_option maxRecDepth 100000 in
theorem jumpsPlay_walk (w : World) (v0 : Value) (a0 : Arg Try.prog w 39 v0) :
    Calls Try.prog 5 #[v0] w fun e w' => e = .returned (.bool true) ∧ Below w.heap.size w w' := by
  obtain ⟨ca, c, cc, rfl, _, hcc, hcm, _, hrow⟩ := arg_slice (k := 7) Try.underlying39 (by kernel_rfl) (by decide) a0
  have hc63 : c ≤ 9223372036854775807 := by unfold maxLen at hcm; omega
  have Hrow := Lib.hid hrow
  clear a0 hrow hcm
  go_enter Try.func5, Try.ntmps5
  go_wp2_with fail
  refine (known_true (Owns.start w)).mono ?_
  rintro e w1 ⟨rfl, h1⟩
  have H1 := Lib.hid h1
  clear h1
  go_wp2_with fail
  all_goals first | (go_ret; exact ⟨rfl, H1.out.below⟩) | skip
  refine (jnew H1.out).mono ?_
  rintro e w2 ⟨j, rfl, h2⟩
  have h3 := h2.alloc #[.slice none 0 0, .int .i64 0] 42
  have h4 : Owns w (w2.alloc (.cells #[.slice none 0 0, .int .i64 0] 42)) [Asrt.rj w2.heap.size [] 0, Asrt.jumps j [] 0] := rjI (s := .slice none 0 0) (h3.srcNil (k := 2)).p1
  obtain ⟨r, hr⟩ : ∃ r, r = w2.heap.size := ⟨_, rfl⟩
  rw [← hr] at h4
  have H4 := Lib.hid h4
  have Hr := Lib.hid hr
  clear h2 h3 h4 hr H1
  go_wp2_with fail
  rw [← Hr.out]
  go_loopg [5] c (fun gk q wr => ∃ (i : Nat) (L : List (Int × Int)) (at_ : Nat), gk + i = c ∧ q = .int .i64 i ∧ at_ ≤ L.length ∧ L.length ≤ 16 ∧ (∀ p ∈ L, -(40 + 10 * (i : Int)) ≤ p.1 ∧ p.1 ≤ 40 + 10 * (i : Int)) ∧ Owns w wr [Asrt.rj r L at_, Asrt.jumps j L at_])
  case atStart => exact ⟨0, [], 0, rfl, rfl, by decide, by decide, by simp, H4.out⟩
  case round =>
    obtain ⟨i, L, at_, hgi, rfl, hat, hL, hbd, h5⟩ := hrel
    have H5 := Lib.hid h5
    have Hbd := Lib.hid hbd
    clear h5 hbd
    by_cases hlt : i < c
    · obtain ⟨b, off, rfl, hbl, hel⟩ := Hrow.out (by omega)
      obtain ⟨es, hes, hrd, hce⟩ := hel i hlt
      obtain ⟨a, l, cl, n, x, y, z, rfl, ha0⟩ := act_of hes hrd
      have k0 := H5.out.chg.cell (hce 0 _ rfl) (by simp)
      have k1 := H5.out.chg.cell (hce 1 _ rfl) (by simp)
      have k2 := H5.out.chg.cell (hce 2 _ rfl) (by simp)
      have k3 := H5.out.chg.cell (hce 3 _ rfl) (by simp)
      have k4 := H5.out.chg.cell (hce 4 _ rfl) (by simp)
      have k5 := H5.out.chg.cell (hce 5 _ rfl) (by simp)
      have k6 := H5.out.chg.cell (hce 6 _ rfl) (by simp)
      simp only [Nat.add_zero] at k0
      clear hrd hce hes hel hbl
      have h6 := H5.out.alloc #[.int .u8 a, .int .i64 l, .int .i64 cl, .int .i64 n, .int .i64 x, .int .i64 y, .int .i64 z] 44
      obtain ⟨W1, hW1⟩ : ∃ W1, wr.alloc (.cells #[.int .u8 a, .int .i64 l, .int .i64 cl, .int .i64 n, .int .i64 x, .int .i64 y, .int .i64 z] 44) = W1 := ⟨_, rfl⟩
      obtain ⟨X, hX⟩ : ∃ X, X = wr.heap.size := ⟨_, rfl⟩
      rw [hW1, ← hX] at h6
      have HW1 := Lib.hid hW1
      have HX := Lib.hid hX
      obtain ⟨pl, hpl⟩ : ∃ pl, pl = l.tmod 40 := ⟨_, rfl⟩
      have h7 := h6.alloc #[.int .i64 pl, .int .i64 cl] 29
      obtain ⟨W2, hW2⟩ : ∃ W2, W1.alloc (.cells #[.int .i64 pl, .int .i64 cl] 29) = W2 := ⟨_, rfl⟩
      obtain ⟨P, hP⟩ : ∃ P, P = W1.heap.size := ⟨_, rfl⟩
      rw [hW2, ← hP] at h7
      have HW2 := Lib.hid hW2
      have HP := Lib.hid hP
      have x0 : W1.cell? ⟨X, 0, none⟩ = some (.int .u8 a) := h6.cell (j := 0) rfl
      have x1 : W1.cell? ⟨X, 1, none⟩ = some (.int .i64 l) := h6.cell (j := 1) rfl
      have x2 : W1.cell? ⟨X, 2, none⟩ = some (.int .i64 cl) := h6.cell (j := 2) rfl
      have x3 : W1.cell? ⟨X, 3, none⟩ = some (.int .i64 n) := h6.cell (j := 3) rfl
      have y0 : W2.cell? ⟨X, 0, none⟩ = some (.int .u8 a) := h7.p1.cell (j := 0) rfl
      have y3 : W2.cell? ⟨X, 3, none⟩ = some (.int .i64 n) := h7.p1.cell (j := 3) rfl
      have y4 : W2.cell? ⟨X, 4, none⟩ = some (.int .i64 x) := h7.p1.cell (j := 4) rfl
      have y5 : W2.cell? ⟨X, 5, none⟩ = some (.int .i64 y) := h7.p1.cell (j := 5) rfl
      have y6 : W2.cell? ⟨X, 6, none⟩ = some (.int .i64 z) := h7.p1.cell (j := 6) rfl
      have p0 : W2.cell? ⟨P, 0, none⟩ = some (.int .i64 pl) := h7.cell (j := 0) rfl
      have p1 : W2.cell? ⟨P, 1, none⟩ = some (.int .i64 cl) := h7.cell (j := 1) rfl
      have H7 := Lib.hid h7
      have Hpl := Lib.hid hpl
      clear h6 h7 hW1 hX hW2 hP hpl
      go_upto_region 10 with (fail)
      rw [HW1.out, ← HX.out]
      clear k0 k1 k2 k3 k4 k5 k6 HW1 HX
      go_upto_region 11 with (fail)
      rw [← Hpl.out, HW2.out, ← HP.out]
      clear x0 x1 x2 x3 HW2 HP
      go_upto_if 49 with (fail)
      go_cut [8] (fun v wx => ∃ m : Int, v = .int .i64 m ∧ W2 = wx)
      case first =>
        by_cases h3 : n.tmod 3 = 0
        · go_wp2_with fail
          go_meet
          exact ⟨_, rfl, rfl⟩
        · go_wp2_with fail
          go_meet
          exact ⟨_, rfl, rfl⟩
      case rest =>
      obtain ⟨m, rfl, rfl⟩ := hcut
      go_upto_region 17 with (fail)
      have hplb := tmod_bd l (m := 40) (by decide)
      rw [← Hpl.out] at hplb
      have hpb : ∀ p ∈ pushL L (pl, cl), -(40 + 10 * ((i + 1 : Nat) : Int)) ≤ p.1 ∧ p.1 ≤ 40 + 10 * ((i + 1 : Nat) : Int) := fun p hp => by
        have h1 := List.mem_of_mem_drop hp
        rcases List.mem_append.1 h1 with h | h
        · have := Hbd.out p (List.mem_filter.1 h).1
          omega
        · simp at h
          subst h
          exact ⟨by omega, by omega⟩
      have hlb : ∀ p ∈ L, -(40 + 10 * ((i + 1 : Nat) : Int)) ≤ p.1 ∧ p.1 ≤ 40 + 10 * ((i + 1 : Nat) : Int) := fun p hp => by have := Hbd.out p hp; omega
      have Hpb := Lib.hid hpb
      have Hlb := Lib.hid hlb
      have hxb := tmod_bd x (m := 30) (by decide)
      have hyb := tmod_bd y (m := 6) (by decide)
      have hzb := tmod_bd z (m := 6) (by decide)
      have hi60 : i ≤ 60 := by omega
      have hab : ∀ pa po pn : Int, (-30 < pa ∧ pa < 30) → (-6 < po ∧ po < 6) → (-6 < pn ∧ pn < 6) → (∀ p ∈ L, smallN p.1 pa po pn) ∧ ∀ p ∈ adjL pa po pn L, -(40 + 10 * ((i + 1 : Nat) : Int)) ≤ p.1 ∧ p.1 ≤ 40 + 10 * ((i + 1 : Nat) : Int) := by
        intro pa po pn ha ho hn
        refine ⟨fun p hp => ?_, fun p hp => ?_⟩
        · have := Hbd.out p hp
          unfold smallN
          omega
        · obtain ⟨q, hq, rfl⟩ := List.mem_map.1 hp
          have h1 := Hbd.out q (List.mem_filter.1 hq).1
          have := shiftF_bd (line := q.1) (at_ := pa) (old := po) (now := pn) (m := 40 + 10 * (i : Int)) h1 ho hn (by omega)
          simp only [adjP]
          omega
      have Hab := Lib.hid hab
      clear hplb hpb hlb hab
      rcases (show a % 5 = 0 ∨ a % 5 = 1 ∨ a % 5 = 2 ∨ a % 5 = 3 ∨ a % 5 = 4 by omega) with h | h | h | h | h
      · have hA : a % 5 = 0 := h
        clear h
        go_wp2_with fail
        refine (jpush pl cl H7.out.p3 hat hL).mono ?_
        rintro e w3 ⟨rfl, h8⟩
        have q0 : w3.cell? ⟨P, 0, none⟩ = some (.int .i64 pl) := h8.p1.cell (j := 0) rfl
        have q1 : w3.cell? ⟨P, 1, none⟩ = some (.int .i64 cl) := h8.p1.cell (j := 1) rfl
        have H8 := Lib.hid h8
        clear h8
        go_wp2_with fail
        refine (rpush pl cl H8.out.p3 hL).mono ?_
        rintro e w4 ⟨rfl, h9⟩
        have h8 := h9.p1.p1
        have hL' : (pushL L (pl, cl)).length ≤ 16 := by rw [pushL_len]; omega
        clear h9 p0 p1 y0 y3 y4 y5 y6 q0 q1
        go_wp2_with fail
        refine (jall h8.p1 hL').mono ?_
        rintro e w9 ⟨sv, rfl, h9⟩
        obtain ⟨sa, sc, rfl⟩ := row_slice h9.p1.row
        obtain ⟨rv, h10⟩ := rjE h9.p2
        obtain ⟨ra, rc, rfl⟩ := h10.p1.src.form
        have g0 : w9.cell? ⟨r, 0, none⟩ = some (.slice ra (pushL L (pl, cl)).length rc) := h10.cell (j := 0) rfl
        have hp := places_true (L := pushL L (pl, cl)) (a := .slice sa (pushL L (pl, cl)).length sc) (b := .slice ra (pushL L (pl, cl)).length rc) h10 (Reads.row (e := 29) (by simp)) (Reads.src (by simp))
        have Hp := Lib.hid hp
        have hl3 : ¬ ((16 : Int) < ((pushL L (pl, cl)).length : Int)) := by omega
        clear h8 h9 h10 hp
        go_wp2_with fail
        refine Hp.out.mono ?_
        rintro e w10 ⟨rfl, h11⟩
        have g1 : w10.cell? ⟨r, 1, none⟩ = some (.int .i64 ((pushL L (pl, cl)).length)) := h11.cell (j := 1) rfl
        have H11 := Lib.hid (Owns.left (R := [_, _]) (rjI h11))
        clear h11 Hp g0
        go_wp2_with fail
        go_roundg (gk - 1)
        case measure => omega
        case rel => exact ⟨i + 1, pushL L (pl, cl), (pushL L (pl, cl)).length, by omega, by go_num, by omega, hL', fun p hp => Hpb.out p hp, H11.out⟩
      · have hA : a % 5 = 1 := h
        clear h
        go_wp2_with fail
        refine (jpush pl cl H7.out.p3 hat hL).mono ?_
        rintro e w3 ⟨rfl, h8⟩
        have q0 : w3.cell? ⟨P, 0, none⟩ = some (.int .i64 pl) := h8.p1.cell (j := 0) rfl
        have q1 : w3.cell? ⟨P, 1, none⟩ = some (.int .i64 cl) := h8.p1.cell (j := 1) rfl
        have H8 := Lib.hid h8
        clear h8
        go_wp2_with fail
        refine (rpush pl cl H8.out.p3 hL).mono ?_
        rintro e w4 ⟨rfl, h9⟩
        have h8 := h9.p1.p1
        have hL' : (pushL L (pl, cl)).length ≤ 16 := by rw [pushL_len]; omega
        clear h9 p0 p1 y0 y3 y4 y5 y6 q0 q1
        go_wp2_with fail
        refine (jall h8.p1 hL').mono ?_
        rintro e w9 ⟨sv, rfl, h9⟩
        obtain ⟨sa, sc, rfl⟩ := row_slice h9.p1.row
        obtain ⟨rv, h10⟩ := rjE h9.p2
        obtain ⟨ra, rc, rfl⟩ := h10.p1.src.form
        have g0 : w9.cell? ⟨r, 0, none⟩ = some (.slice ra (pushL L (pl, cl)).length rc) := h10.cell (j := 0) rfl
        have hp := places_true (L := pushL L (pl, cl)) (a := .slice sa (pushL L (pl, cl)).length sc) (b := .slice ra (pushL L (pl, cl)).length rc) h10 (Reads.row (e := 29) (by simp)) (Reads.src (by simp))
        have Hp := Lib.hid hp
        have hl3 : ¬ ((16 : Int) < ((pushL L (pl, cl)).length : Int)) := by omega
        clear h8 h9 h10 hp
        go_wp2_with fail
        refine Hp.out.mono ?_
        rintro e w10 ⟨rfl, h11⟩
        have g1 : w10.cell? ⟨r, 1, none⟩ = some (.int .i64 ((pushL L (pl, cl)).length)) := h11.cell (j := 1) rfl
        have H11 := Lib.hid (Owns.left (R := [_, _]) (rjI h11))
        clear h11 Hp g0
        go_wp2_with fail
        go_roundg (gk - 1)
        case measure => omega
        case rel => exact ⟨i + 1, pushL L (pl, cl), (pushL L (pl, cl)).length, by omega, by go_num, by omega, hL', fun p hp => Hpb.out p hp, H11.out⟩
      · have hA : a % 5 = 2 := h
        clear h
        rcases (show (m < 1 ∨ m > at_) ∨ (1 ≤ m ∧ m ≤ at_ ∧ at_ < L.length) ∨ (1 ≤ m ∧ m ≤ at_ ∧ at_ = L.length) by omega) with hm | ⟨hm1, hm2, hm3⟩ | ⟨hm1, hm2, hm3⟩
        · have hm0 := hm
          have hj := jolder_out pl cl m H7.out.p3 hm
          have Hj := Lib.hid hj
          clear hj
          go_wp2_with fail
          refine Hj.out.mono ?_
          rintro e w3 ⟨rfl, h8⟩
          have h9 := h8.alloc #[.int .i64 (0), .int .i64 (0)] 29
          obtain ⟨W3, hW3⟩ : ∃ W3, w3.alloc (.cells #[.int .i64 (0), .int .i64 (0)] 29) = W3 := ⟨_, rfl⟩
          obtain ⟨C, hC⟩ : ∃ C, C = w3.heap.size := ⟨_, rfl⟩
          rw [hW3, ← hC] at h9
          have HW3 := Lib.hid hW3
          have HC := Lib.hid hC
          have q0 : W3.cell? ⟨P, 0, none⟩ = some (.int .i64 pl) := (h9.ord [2]).cell (j := 0) rfl
          have q1 : W3.cell? ⟨P, 1, none⟩ = some (.int .i64 cl) := (h9.ord [2]).cell (j := 1) rfl
          have c0 : W3.cell? ⟨C, 0, none⟩ = some (.int .i64 (0)) := h9.cell (j := 0) rfl
          have c1 : W3.cell? ⟨C, 1, none⟩ = some (.int .i64 (0)) := h9.cell (j := 1) rfl
          have hr := rolder_out pl cl m (h9.ord [4]) hm
          have Hr := Lib.hid hr
          have H9 := Lib.hid h9
          clear h8 h9 hW3 hC hr Hj p0 p1 y0 y3 y4 y5 y6
          go_upto_region 23 with (fail)
          rw [HW3.out, ← HC.out]
          clear HW3 HC
          go_wp2_with fail
          refine Hr.out.mono ?_
          rintro e w4 ⟨rfl, h10⟩
          have h11 := h10.alloc #[.int .i64 (0), .int .i64 (0)] 29
          have c2 : w4.cell? ⟨C, 0, none⟩ = some (.int .i64 (0)) := h10.p1.cell (j := 0) rfl
          have c3 : w4.cell? ⟨C, 1, none⟩ = some (.int .i64 (0)) := h10.p1.cell (j := 1) rfl
          have c4 := cell_alloc c2 (.cells #[.int .i64 (0), .int .i64 (0)] 29)
          have c5 := cell_alloc c3 (.cells #[.int .i64 (0), .int .i64 (0)] 29)
          have heq := fun w => eqin_pos (0) (0) w
          have h8 := (h11.ord [1, 2]).p1.p1
          have hL' : (L).length ≤ 16 := hL
          clear h10 h11 Hr c0 c1 c2 c3 q0 q1
          go_wp2_with fail
          clear c4 c5 heq
          refine (jall h8.p1 hL').mono ?_
          rintro e w9 ⟨sv, rfl, h9⟩
          obtain ⟨sa, sc, rfl⟩ := row_slice h9.p1.row
          obtain ⟨rv, h10⟩ := rjE h9.p2
          obtain ⟨ra, rc, rfl⟩ := h10.p1.src.form
          have g0 : w9.cell? ⟨r, 0, none⟩ = some (.slice ra (L).length rc) := h10.cell (j := 0) rfl
          have hp := places_true (L := L) (a := .slice sa (L).length sc) (b := .slice ra (L).length rc) h10 (Reads.row (e := 29) (by simp)) (Reads.src (by simp))
          have Hp := Lib.hid hp
          have hl3 : ¬ ((16 : Int) < ((L).length : Int)) := by omega
          clear h8 h9 h10 hp
          go_wp2_with fail
          refine Hp.out.mono ?_
          rintro e w10 ⟨rfl, h11⟩
          have g1 : w10.cell? ⟨r, 1, none⟩ = some (.int .i64 (at_)) := h11.cell (j := 1) rfl
          have H11 := Lib.hid (Owns.left (R := [_, _]) (rjI h11))
          clear h11 Hp g0
          go_wp2_with fail
          go_roundg (gk - 1)
          case measure => omega
          case rel => exact ⟨i + 1, L, at_, by omega, by go_num, by exact hat, hL', fun p hp => Hlb.out p hp, H11.out⟩
        · obtain ⟨bb, hbb⟩ : ∃ bb : Nat, (at_ : Int) - m = bb := ⟨((at_ : Int) - m).toNat, by omega⟩
          obtain ⟨q, hq⟩ : ∃ q, L[bb]? = some q := ⟨_, List.getElem?_eq_getElem (by omega)⟩
          have hbl : bb ≤ L.length := by omega
          have Hbb := Lib.hid hbb
          have Hq := Lib.hid hq
          clear hbb hq
          have hj := jolder_mid pl cl m H7.out.p3 hm3 hL hm1 hm2 Hbb.out Hq.out
          have Hj := Lib.hid hj
          clear hj
          go_wp2_with fail
          refine Hj.out.mono ?_
          rintro e w3 ⟨rfl, h8⟩
          have h9 := h8.alloc #[.int .i64 (q.1), .int .i64 (q.2)] 29
          obtain ⟨W3, hW3⟩ : ∃ W3, w3.alloc (.cells #[.int .i64 (q.1), .int .i64 (q.2)] 29) = W3 := ⟨_, rfl⟩
          obtain ⟨C, hC⟩ : ∃ C, C = w3.heap.size := ⟨_, rfl⟩
          rw [hW3, ← hC] at h9
          have HW3 := Lib.hid hW3
          have HC := Lib.hid hC
          have q0 : W3.cell? ⟨P, 0, none⟩ = some (.int .i64 pl) := (h9.ord [2]).cell (j := 0) rfl
          have q1 : W3.cell? ⟨P, 1, none⟩ = some (.int .i64 cl) := (h9.ord [2]).cell (j := 1) rfl
          have c0 : W3.cell? ⟨C, 0, none⟩ = some (.int .i64 (q.1)) := h9.cell (j := 0) rfl
          have c1 : W3.cell? ⟨C, 1, none⟩ = some (.int .i64 (q.2)) := h9.cell (j := 1) rfl
          have hr := rolder_mid pl cl m (h9.ord [4]) hm3 hL hm1 hm2 Hbb.out Hq.out
          have Hr := Lib.hid hr
          have H9 := Lib.hid h9
          clear h8 h9 hW3 hC hr Hj p0 p1 y0 y3 y4 y5 y6
          go_upto_region 23 with (fail)
          rw [HW3.out, ← HC.out]
          clear HW3 HC
          go_wp2_with fail
          refine Hr.out.mono ?_
          rintro e w4 ⟨rfl, h10⟩
          have h11 := h10.alloc #[.int .i64 (q.1), .int .i64 (q.2)] 29
          have c2 : w4.cell? ⟨C, 0, none⟩ = some (.int .i64 (q.1)) := h10.p1.cell (j := 0) rfl
          have c3 : w4.cell? ⟨C, 1, none⟩ = some (.int .i64 (q.2)) := h10.p1.cell (j := 1) rfl
          have c4 := cell_alloc c2 (.cells #[.int .i64 (q.1), .int .i64 (q.2)] 29)
          have c5 := cell_alloc c3 (.cells #[.int .i64 (q.1), .int .i64 (q.2)] 29)
          have heq := fun w => eqin_pos (q.1) (q.2) w
          have h8 := (h11.ord [1, 2]).p1.p1
          have hL' : (L).length ≤ 16 := hL
          clear h10 h11 Hr c0 c1 c2 c3 q0 q1
          go_wp2_with fail
          clear c4 c5 heq
          refine (jall h8.p1 hL').mono ?_
          rintro e w9 ⟨sv, rfl, h9⟩
          obtain ⟨sa, sc, rfl⟩ := row_slice h9.p1.row
          obtain ⟨rv, h10⟩ := rjE h9.p2
          obtain ⟨ra, rc, rfl⟩ := h10.p1.src.form
          have g0 : w9.cell? ⟨r, 0, none⟩ = some (.slice ra (L).length rc) := h10.cell (j := 0) rfl
          have hp := places_true (L := L) (a := .slice sa (L).length sc) (b := .slice ra (L).length rc) h10 (Reads.row (e := 29) (by simp)) (Reads.src (by simp))
          have Hp := Lib.hid hp
          have hl3 : ¬ ((16 : Int) < ((L).length : Int)) := by omega
          clear h8 h9 h10 hp
          go_wp2_with fail
          refine Hp.out.mono ?_
          rintro e w10 ⟨rfl, h11⟩
          have g1 : w10.cell? ⟨r, 1, none⟩ = some (.int .i64 ((bb : Nat))) := h11.cell (j := 1) rfl
          have H11 := Lib.hid (Owns.left (R := [_, _]) (rjI h11))
          clear h11 Hp g0
          go_wp2_with fail
          go_roundg (gk - 1)
          case measure => omega
          case rel => exact ⟨i + 1, L, bb, by omega, by go_num, by omega, hL', fun p hp => Hlb.out p hp, H11.out⟩
        · subst hm3
          have hpl1 := pushL_len (L := L) (pl, cl)
          obtain ⟨bb, hbb⟩ : ∃ bb : Nat, max (((pushL L (pl, cl)).length : Int) - 1 - m) 0 = bb := ⟨(max (((pushL L (pl, cl)).length : Int) - 1 - m) 0).toNat, by omega⟩
          have hbl : bb < (pushL L (pl, cl)).length := by omega
          obtain ⟨q, hq⟩ : ∃ q, (pushL L (pl, cl))[bb]? = some q := ⟨_, List.getElem?_eq_getElem hbl⟩
          have Hbb := Lib.hid hbb
          have Hq := Lib.hid hq
          clear hbb hq hpl1
          have hj := jolder_end pl cl m H7.out.p3 hL hm1 hm2 Hbb.out Hq.out
          have Hj := Lib.hid hj
          clear hj
          go_wp2_with fail
          refine Hj.out.mono ?_
          rintro e w3 ⟨rfl, h8⟩
          have h9 := h8.alloc #[.int .i64 (q.1), .int .i64 (q.2)] 29
          obtain ⟨W3, hW3⟩ : ∃ W3, w3.alloc (.cells #[.int .i64 (q.1), .int .i64 (q.2)] 29) = W3 := ⟨_, rfl⟩
          obtain ⟨C, hC⟩ : ∃ C, C = w3.heap.size := ⟨_, rfl⟩
          rw [hW3, ← hC] at h9
          have HW3 := Lib.hid hW3
          have HC := Lib.hid hC
          have q0 : W3.cell? ⟨P, 0, none⟩ = some (.int .i64 pl) := (h9.ord [2]).cell (j := 0) rfl
          have q1 : W3.cell? ⟨P, 1, none⟩ = some (.int .i64 cl) := (h9.ord [2]).cell (j := 1) rfl
          have c0 : W3.cell? ⟨C, 0, none⟩ = some (.int .i64 (q.1)) := h9.cell (j := 0) rfl
          have c1 : W3.cell? ⟨C, 1, none⟩ = some (.int .i64 (q.2)) := h9.cell (j := 1) rfl
          have hr := rolder_end pl cl m (h9.ord [4]) hL hm1 hm2 Hbb.out Hq.out
          have Hr := Lib.hid hr
          have H9 := Lib.hid h9
          clear h8 h9 hW3 hC hr Hj p0 p1 y0 y3 y4 y5 y6
          go_upto_region 23 with (fail)
          rw [HW3.out, ← HC.out]
          clear HW3 HC
          go_wp2_with fail
          refine Hr.out.mono ?_
          rintro e w4 ⟨rfl, h10⟩
          have h11 := h10.alloc #[.int .i64 (q.1), .int .i64 (q.2)] 29
          have c2 : w4.cell? ⟨C, 0, none⟩ = some (.int .i64 (q.1)) := h10.p1.cell (j := 0) rfl
          have c3 : w4.cell? ⟨C, 1, none⟩ = some (.int .i64 (q.2)) := h10.p1.cell (j := 1) rfl
          have c4 := cell_alloc c2 (.cells #[.int .i64 (q.1), .int .i64 (q.2)] 29)
          have c5 := cell_alloc c3 (.cells #[.int .i64 (q.1), .int .i64 (q.2)] 29)
          have heq := fun w => eqin_pos (q.1) (q.2) w
          have h8 := (h11.ord [1, 2]).p1.p1
          have hL' : (pushL L (pl, cl)).length ≤ 16 := by rw [pushL_len]; omega
          clear h10 h11 Hr c0 c1 c2 c3 q0 q1
          go_wp2_with fail
          clear c4 c5 heq
          refine (jall h8.p1 hL').mono ?_
          rintro e w9 ⟨sv, rfl, h9⟩
          obtain ⟨sa, sc, rfl⟩ := row_slice h9.p1.row
          obtain ⟨rv, h10⟩ := rjE h9.p2
          obtain ⟨ra, rc, rfl⟩ := h10.p1.src.form
          have g0 : w9.cell? ⟨r, 0, none⟩ = some (.slice ra (pushL L (pl, cl)).length rc) := h10.cell (j := 0) rfl
          have hp := places_true (L := pushL L (pl, cl)) (a := .slice sa (pushL L (pl, cl)).length sc) (b := .slice ra (pushL L (pl, cl)).length rc) h10 (Reads.row (e := 29) (by simp)) (Reads.src (by simp))
          have Hp := Lib.hid hp
          have hl3 : ¬ ((16 : Int) < ((pushL L (pl, cl)).length : Int)) := by omega
          clear h8 h9 h10 hp
          go_wp2_with fail
          refine Hp.out.mono ?_
          rintro e w10 ⟨rfl, h11⟩
          have g1 : w10.cell? ⟨r, 1, none⟩ = some (.int .i64 ((bb : Nat))) := h11.cell (j := 1) rfl
          have H11 := Lib.hid (Owns.left (R := [_, _]) (rjI h11))
          clear h11 Hp g0
          go_wp2_with fail
          go_roundg (gk - 1)
          case measure => omega
          case rel => exact ⟨i + 1, pushL L (pl, cl), bb, by omega, by go_num, by omega, hL', fun p hp => Hpb.out p hp, H11.out⟩
      · have hA : a % 5 = 3 := h
        clear h
        rcases (show (m < 1 ∨ m ≥ (L.length : Int) - at_) ∨ (1 ≤ m ∧ m < (L.length : Int) - at_) by omega) with hm | ⟨hm1, hm2⟩
        · have hm0 := hm
          have hj := jnewer_out m H7.out.p3 hat hL hm
          have Hj := Lib.hid hj
          clear hj
          go_wp2_with fail
          refine Hj.out.mono ?_
          rintro e w3 ⟨rfl, h8⟩
          have h9 := h8.alloc #[.int .i64 (0), .int .i64 (0)] 29
          obtain ⟨W3, hW3⟩ : ∃ W3, w3.alloc (.cells #[.int .i64 (0), .int .i64 (0)] 29) = W3 := ⟨_, rfl⟩
          obtain ⟨C, hC⟩ : ∃ C, C = w3.heap.size := ⟨_, rfl⟩
          rw [hW3, ← hC] at h9
          have HW3 := Lib.hid hW3
          have HC := Lib.hid hC
          have q0 : W3.cell? ⟨P, 0, none⟩ = some (.int .i64 pl) := (h9.ord [2]).cell (j := 0) rfl
          have q1 : W3.cell? ⟨P, 1, none⟩ = some (.int .i64 cl) := (h9.ord [2]).cell (j := 1) rfl
          have c0 : W3.cell? ⟨C, 0, none⟩ = some (.int .i64 (0)) := h9.cell (j := 0) rfl
          have c1 : W3.cell? ⟨C, 1, none⟩ = some (.int .i64 (0)) := h9.cell (j := 1) rfl
          have hr := rnewer_out m (h9.ord [4]) hat hL hm
          have Hr := Lib.hid hr
          have H9 := Lib.hid h9
          clear h8 h9 hW3 hC hr Hj p0 p1 y0 y3 y4 y5 y6
          go_upto_region 28 with (fail)
          rw [HW3.out, ← HC.out]
          clear HW3 HC
          go_wp2_with fail
          refine Hr.out.mono ?_
          rintro e w4 ⟨rfl, h10⟩
          have h11 := h10.alloc #[.int .i64 (0), .int .i64 (0)] 29
          have c2 : w4.cell? ⟨C, 0, none⟩ = some (.int .i64 (0)) := h10.p1.cell (j := 0) rfl
          have c3 : w4.cell? ⟨C, 1, none⟩ = some (.int .i64 (0)) := h10.p1.cell (j := 1) rfl
          have c4 := cell_alloc c2 (.cells #[.int .i64 (0), .int .i64 (0)] 29)
          have c5 := cell_alloc c3 (.cells #[.int .i64 (0), .int .i64 (0)] 29)
          have heq := fun w => eqin_pos (0) (0) w
          have h8 := (h11.ord [1, 2]).p1.p1
          have hL' : (L).length ≤ 16 := hL
          clear h10 h11 Hr c0 c1 c2 c3 q0 q1
          go_wp2_with fail
          clear c4 c5 heq
          refine (jall h8.p1 hL').mono ?_
          rintro e w9 ⟨sv, rfl, h9⟩
          obtain ⟨sa, sc, rfl⟩ := row_slice h9.p1.row
          obtain ⟨rv, h10⟩ := rjE h9.p2
          obtain ⟨ra, rc, rfl⟩ := h10.p1.src.form
          have g0 : w9.cell? ⟨r, 0, none⟩ = some (.slice ra (L).length rc) := h10.cell (j := 0) rfl
          have hp := places_true (L := L) (a := .slice sa (L).length sc) (b := .slice ra (L).length rc) h10 (Reads.row (e := 29) (by simp)) (Reads.src (by simp))
          have Hp := Lib.hid hp
          have hl3 : ¬ ((16 : Int) < ((L).length : Int)) := by omega
          clear h8 h9 h10 hp
          go_wp2_with fail
          refine Hp.out.mono ?_
          rintro e w10 ⟨rfl, h11⟩
          have g1 : w10.cell? ⟨r, 1, none⟩ = some (.int .i64 (at_)) := h11.cell (j := 1) rfl
          have H11 := Lib.hid (Owns.left (R := [_, _]) (rjI h11))
          clear h11 Hp g0
          go_wp2_with fail
          go_roundg (gk - 1)
          case measure => omega
          case rel => exact ⟨i + 1, L, at_, by omega, by go_num, by exact hat, hL', fun p hp => Hlb.out p hp, H11.out⟩
        · obtain ⟨bb, hbb⟩ : ∃ bb : Nat, (at_ : Int) + m = bb := ⟨((at_ : Int) + m).toNat, by omega⟩
          obtain ⟨q, hq⟩ : ∃ q, L[bb]? = some q := ⟨_, List.getElem?_eq_getElem (by omega)⟩
          have hbl : bb ≤ L.length := by omega
          have Hbb := Lib.hid hbb
          have Hq := Lib.hid hq
          clear hbb hq
          have hj := jnewer_in m H7.out.p3 hat hL hm1 hm2 Hbb.out Hq.out
          have Hj := Lib.hid hj
          clear hj
          go_wp2_with fail
          refine Hj.out.mono ?_
          rintro e w3 ⟨rfl, h8⟩
          have h9 := h8.alloc #[.int .i64 (q.1), .int .i64 (q.2)] 29
          obtain ⟨W3, hW3⟩ : ∃ W3, w3.alloc (.cells #[.int .i64 (q.1), .int .i64 (q.2)] 29) = W3 := ⟨_, rfl⟩
          obtain ⟨C, hC⟩ : ∃ C, C = w3.heap.size := ⟨_, rfl⟩
          rw [hW3, ← hC] at h9
          have HW3 := Lib.hid hW3
          have HC := Lib.hid hC
          have q0 : W3.cell? ⟨P, 0, none⟩ = some (.int .i64 pl) := (h9.ord [2]).cell (j := 0) rfl
          have q1 : W3.cell? ⟨P, 1, none⟩ = some (.int .i64 cl) := (h9.ord [2]).cell (j := 1) rfl
          have c0 : W3.cell? ⟨C, 0, none⟩ = some (.int .i64 (q.1)) := h9.cell (j := 0) rfl
          have c1 : W3.cell? ⟨C, 1, none⟩ = some (.int .i64 (q.2)) := h9.cell (j := 1) rfl
          have hr := rnewer_in m (h9.ord [4]) hat hL hm1 hm2 Hbb.out Hq.out
          have Hr := Lib.hid hr
          have H9 := Lib.hid h9
          clear h8 h9 hW3 hC hr Hj p0 p1 y0 y3 y4 y5 y6
          go_upto_region 28 with (fail)
          rw [HW3.out, ← HC.out]
          clear HW3 HC
          go_wp2_with fail
          refine Hr.out.mono ?_
          rintro e w4 ⟨rfl, h10⟩
          have h11 := h10.alloc #[.int .i64 (q.1), .int .i64 (q.2)] 29
          have c2 : w4.cell? ⟨C, 0, none⟩ = some (.int .i64 (q.1)) := h10.p1.cell (j := 0) rfl
          have c3 : w4.cell? ⟨C, 1, none⟩ = some (.int .i64 (q.2)) := h10.p1.cell (j := 1) rfl
          have c4 := cell_alloc c2 (.cells #[.int .i64 (q.1), .int .i64 (q.2)] 29)
          have c5 := cell_alloc c3 (.cells #[.int .i64 (q.1), .int .i64 (q.2)] 29)
          have heq := fun w => eqin_pos (q.1) (q.2) w
          have h8 := (h11.ord [1, 2]).p1.p1
          have hL' : (L).length ≤ 16 := hL
          clear h10 h11 Hr c0 c1 c2 c3 q0 q1
          go_wp2_with fail
          clear c4 c5 heq
          refine (jall h8.p1 hL').mono ?_
          rintro e w9 ⟨sv, rfl, h9⟩
          obtain ⟨sa, sc, rfl⟩ := row_slice h9.p1.row
          obtain ⟨rv, h10⟩ := rjE h9.p2
          obtain ⟨ra, rc, rfl⟩ := h10.p1.src.form
          have g0 : w9.cell? ⟨r, 0, none⟩ = some (.slice ra (L).length rc) := h10.cell (j := 0) rfl
          have hp := places_true (L := L) (a := .slice sa (L).length sc) (b := .slice ra (L).length rc) h10 (Reads.row (e := 29) (by simp)) (Reads.src (by simp))
          have Hp := Lib.hid hp
          have hl3 : ¬ ((16 : Int) < ((L).length : Int)) := by omega
          clear h8 h9 h10 hp
          go_wp2_with fail
          refine Hp.out.mono ?_
          rintro e w10 ⟨rfl, h11⟩
          have g1 : w10.cell? ⟨r, 1, none⟩ = some (.int .i64 ((bb : Nat))) := h11.cell (j := 1) rfl
          have H11 := Lib.hid (Owns.left (R := [_, _]) (rjI h11))
          clear h11 Hp g0
          go_wp2_with fail
          go_roundg (gk - 1)
          case measure => omega
          case rel => exact ⟨i + 1, L, bb, by omega, by go_num, by omega, hL', fun p hp => Hlb.out p hp, H11.out⟩
      · have hA : a % 5 = 4 := h
        clear h
        obtain ⟨hs1, hs2⟩ := Hab.out (x.tmod 30) (y.tmod 6) (z.tmod 6) hxb hyb hzb
        obtain ⟨pa, hpa⟩ : ∃ pa, pa = x.tmod 30 := ⟨_, rfl⟩
        obtain ⟨po, hpo⟩ : ∃ po, po = y.tmod 6 := ⟨_, rfl⟩
        obtain ⟨pn, hpn⟩ : ∃ pn, pn = z.tmod 6 := ⟨_, rfl⟩
        rw [← hpa, ← hpo, ← hpn] at hs1 hs2
        have hj := jadjust H7.out.p3 hat hL hs1
        have Hj := Lib.hid hj
        have Hs1 := Lib.hid hs1
        have Hs2 := Lib.hid hs2
        have Hp3 := Lib.hid (And.intro hpa (And.intro hpo hpn))
        clear hj hs1 hs2 hpa hpo hpn hxb hyb hzb
        go_wp2_with fail
        rw [← Hp3.out.1, ← Hp3.out.2.1, ← Hp3.out.2.2]
        refine Hj.out.mono ?_
        rintro e w3 ⟨rfl, h8⟩
        have q4 : w3.cell? ⟨X, 4, none⟩ = some (.int .i64 x) := h8.p2.cell (j := 4) rfl
        have q5 : w3.cell? ⟨X, 5, none⟩ = some (.int .i64 y) := h8.p2.cell (j := 5) rfl
        have q6 : w3.cell? ⟨X, 6, none⟩ = some (.int .i64 z) := h8.p2.cell (j := 6) rfl
        have hr := radjust h8.p3 hat hL Hs1.out
        have Hr := Lib.hid hr
        clear h8 hr Hj p0 p1 y0 y3 y4 y5 y6
        go_wp2_with fail
        rw [← Hp3.out.1, ← Hp3.out.2.1, ← Hp3.out.2.2]
        refine Hr.out.mono ?_
        rintro e w4 ⟨rfl, h9⟩
        have h8 := h9.p1.p1
        have hL' : (adjL pa po pn L).length ≤ 16 := Nat.le_trans (adjL_len _ _ _ _) hL
        have hat' : ((L.take at_).filter (adjK pa po pn)).length ≤ (adjL pa po pn L).length := by
          rw [adjL, List.length_map]
          exact ((List.take_sublist at_ L).filter _).length_le
        clear h9 Hr q4 q5 q6
        go_wp2_with fail
        refine (jall h8.p1 hL').mono ?_
        rintro e w9 ⟨sv, rfl, h9⟩
        obtain ⟨sa, sc, rfl⟩ := row_slice h9.p1.row
        obtain ⟨rv, h10⟩ := rjE h9.p2
        obtain ⟨ra, rc, rfl⟩ := h10.p1.src.form
        have g0 : w9.cell? ⟨r, 0, none⟩ = some (.slice ra (adjL pa po pn L).length rc) := h10.cell (j := 0) rfl
        have hp := places_true (L := adjL pa po pn L) (a := .slice sa (adjL pa po pn L).length sc) (b := .slice ra (adjL pa po pn L).length rc) h10 (Reads.row (e := 29) (by simp)) (Reads.src (by simp))
        have Hp := Lib.hid hp
        have hl3 : ¬ ((16 : Int) < ((adjL pa po pn L).length : Int)) := by omega
        clear h8 h9 h10 hp
        go_wp2_with fail
        refine Hp.out.mono ?_
        rintro e w10 ⟨rfl, h11⟩
        have g1 : w10.cell? ⟨r, 1, none⟩ = some (.int .i64 (((L.take at_).filter (adjK pa po pn)).length)) := h11.cell (j := 1) rfl
        have H11 := Lib.hid (Owns.left (R := [_, _]) (rjI h11))
        clear h11 Hp g0
        go_wp2_with fail
        go_roundg (gk - 1)
        case measure => omega
        case rel => exact ⟨i + 1, adjL pa po pn L, ((L.take at_).filter (adjK pa po pn)).length, by omega, by go_num, by exact hat', hL', fun p hp => Hs2.out p hp, H11.out⟩
    · obtain rfl : i = c := by omega
      go_wp2_with fail
      go_ret
      exact ⟨rfl, H5.out.below⟩
end Go.Proofs.Ytaekfmbfejgldaa
