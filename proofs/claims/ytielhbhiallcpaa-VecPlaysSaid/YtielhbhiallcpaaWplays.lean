/- The law VecPlays on values that read. -/
import Derived.Test.YtielhbhiallcpaaVecPInt
import Derived.Test.YtielhbhiallcpaaActs
import Derived.Test.YtielhbhiallcpaaKnown
import Derived.Test.YtielhbhiallcpaaAllw
import Derived.Test.YtielhbhiallcpaaSame
import Derived.Deep.DeepCutAuto
import Derived.Deep.CutBlock
namespace Go.Proofs.Ytielhbhiallcpaa
open Go Go.RowKit Go.Fol
attribute [local go_sem] Oper.semAt_some
attribute [local go_sem ↓] run_min2 run_max2
set_option linter.unusedVariables false
set_option linter.unusedSimpArgs false

theorem o_all_true {w0 w : World} {R : List Asrt} {p : Nat} {L : List Int} (a : Value) (H : Owns w0 w (vec_int p L.length (ints L) :: R)) (ha : Reads w0 (vec_int p L.length (ints L) :: R) 1 a L.length (ints L)) (hb : L.length * 8 ≤ 140737488355328) :
    Calls Try.prog 19 #[.pointer (some ⟨p, 0, none⟩), a] w (Ret (.bool true) w0 (vec_int p L.length (ints L) :: R)) := by
  obtain ⟨sv, hv, _⟩ := H.vec
  exact (all_true p sv a L w hv (ha w H) hb).mono fun e w' ⟨h1, h2⟩ => ⟨h1, H.quiet h2⟩
theorem o_same_true {w0 w : World} {R : List Asrt} {L : List Int} {n : Nat} (a b : Value) (H : Owns w0 w R) (hn : L.length = n) (ha : Reads w0 R 1 a n (ints L)) (hb : Reads w0 R 1 b n (ints L)) :
    Calls Try.prog 16 #[a, b] w (Ret (.bool true) w0 R) := by
  subst hn
  exact (same_true a b L w (ha w H) (hb w H)).mono fun e w' ⟨h1, h2⟩ => ⟨h1, H.quiet h2⟩

/-- Between the acts: the vector, the list beside it. -/
def Duo (w0 w : World) (p : Nat) (s : Value) (n : Nat) (L : List Int) (R : List Asrt) : Prop := L.length = n ∧ Owns w0 w (vec_int p n (ints L) :: row_int s n (ints L) :: R)

/-- append(append(append(nil, l[:q]...), xs...), l[q:]...), one after another. -/
theorem three {w0 w : World} {R : List Asrt} {a xa : Option Addr} {n c r xc q q2 : Nat} {L xs : List Int} (H : Owns w0 w R) (hs : Reads w0 R 1 (.slice a n c) n (ints L)) (hx : Reads w0 R 1 (.slice xa r xc) r (ints xs))
    (hq : q ≤ n) (hq2 : q2 ≤ n) (hm : n + r + n ≤ 1000000) {a2 : Option Addr} (ha : (if c = q2 then a else Option.map (fun x => x.add q2) a) = a2) :
    ∃ t1 x1 t2 x2 t3 x3, (∀ ty, (Builtin.append_ #[31, 31] ty #[.slice none 0 0, .slice a q c]).run Try.prog w = .ok t1 x1) ∧
      (∀ ty, (Builtin.append_ #[31, 31] ty #[t1, .slice xa r xc]).run Try.prog x1 = .ok t2 x2) ∧
      (∀ ty, (Builtin.append_ #[31, 31] ty #[t2, .slice a2 (n - q2) (c - q2)]).run Try.prog x2 = .ok t3 x3) ∧
      Owns w0 x1 R ∧ Owns w0 x2 R ∧ Owns w0 x3 (row_int t3 (q + r + (n - q2)) (ints (L.take q ++ xs ++ L.drop q2)) :: R) := by
  obtain ⟨t1, x1, r1, h1⟩ := app0_int H (hs.pre hq) (by rw [← ints_take]; exact ints_one _) (by unfold maxLen; omega) (by omega)
  obtain ⟨t2, x2, r2, h2⟩ := app_int h1 hx (ints_one _) (by unfold maxLen; omega) (by omega)
  obtain ⟨t3, x3, r3, h3⟩ := app_int h2 (hs.post hq2 ha) (by rw [← ints_drop]; exact ints_one _) (by unfold maxLen; omega) (by omega)
  refine ⟨t1, x1, t2, x2, t3, x3, r1, r2, r3, h1.drop, h2.drop, ?_⟩
  rwa [show (ints L).take q ++ ints xs ++ (ints L).drop q2 = ints (L.take q ++ xs ++ L.drop q2) by simp [ints_append, ints_take, ints_drop]] at h3

/-- append(append(nil, l[:q]...), l[q2:]...). -/
theorem two {w0 w : World} {R : List Asrt} {a : Option Addr} {n c q q2 : Nat} {L : List Int} (H : Owns w0 w R) (hs : Reads w0 R 1 (.slice a n c) n (ints L))
    (hq : q ≤ n) (hq2 : q2 ≤ n) (hm : n + n ≤ 1000000) {a2 : Option Addr} (ha : (if c = q2 then a else Option.map (fun x => x.add q2) a) = a2) :
    ∃ t1 x1 t3 x3, (∀ ty, (Builtin.append_ #[31, 31] ty #[.slice none 0 0, .slice a q c]).run Try.prog w = .ok t1 x1) ∧
      (∀ ty, (Builtin.append_ #[31, 31] ty #[t1, .slice a2 (n - q2) (c - q2)]).run Try.prog x1 = .ok t3 x3) ∧
      Owns w0 x1 R ∧ Owns w0 x3 (row_int t3 (q + (n - q2)) (ints (L.take q ++ L.drop q2)) :: R) := by
  obtain ⟨t1, x1, r1, h1⟩ := app0_int H (hs.pre hq) (by rw [← ints_take]; exact ints_one _) (by unfold maxLen; omega) (by omega)
  obtain ⟨t3, x3, r3, h3⟩ := app_int h1 (hs.post hq2 ha) (by rw [← ints_drop]; exact ints_one _) (by unfold maxLen; omega) (by omega)
  refine ⟨t1, x1, t3, x3, r1, r3, h1.drop, ?_⟩
  rwa [show (ints L).take q ++ (ints L).drop q2 = ints (L.take q ++ L.drop q2) by simp [ints_append, ints_take, ints_drop]] at h3

set_option maxHeartbeats 40000000 in
set_option maxRecDepth 100000 in
theorem vecPlays_walk (w : World) (v0 v1 : Value) (a0 : Arg Try.prog w 31 v0) (a1 : Arg Try.prog w 32 v1) :
    Calls Try.prog 4 #[v0, v1] w fun e w' => e = .returned (.bool true) ∧ Below w.heap.size w w' := by
  obtain ⟨l, hl, hlb, _⟩ := arg_ints Try.underlying31 Try.underlying3 (by kernel_rfl) (by kernel_rfl) a0
  obtain ⟨ca, c, cc, rfl, _, hcc, hcm, _, hrow⟩ := arg_slice (k := 4) Try.underlying32 (by kernel_rfl) (by decide) a1
  obtain ⟨n, hn⟩ : ∃ n, n = l.length := ⟨_, rfl⟩
  rw [← hn] at hl hlb
  obtain ⟨la, lc, rfl⟩ := hl.form
  have hl63 := hl.n63
  have hc63 : c ≤ 9223372036854775807 := by unfold maxLen at hcm; omega
  have Hl := Lib.hid hl
  have Hn := Lib.hid hn
  have Hrow := Lib.hid hrow
  clear a0 a1 hl hn hrow hcm
  go_enter Try.func4, Try.ntmps4
  go_wp2_with fail
  refine (known_true w).mono ?_
  rintro e w0 ⟨rfl, hc0⟩
  have H0 := Lib.hid (Owns.of_chg hc0)
  clear hc0
  go_wp2_with fail
  all_goals first | (go_ret; exact ⟨rfl, H0.out.below⟩) | skip
  refine (o_new_int _ n (ints l) H0.out (Reads.old Hl.out) (ints_one _) (by omega)).mono ?_
  rintro e w1 ⟨pa, rfl, h1⟩
  obtain ⟨sw, w2, hr1, h2⟩ := app0_int h1 (Reads.old Hl.out) (ints_one _) (by unfold maxLen; omega) (by omega)
  have HD := Lib.hid (show Duo w w2 pa sw n l [] from ⟨Hn.out.symm, h2.p1⟩)
  clear h1 h2
  go_wp2_with (at_builtin; refine Lib.wpList_append_run _ rfl _ _ _ _ rfl _ _ rfl rfl _ _ (hr1 _) ?_)
  clear hr1
  go_loopg [6, 7] c (fun gk s q wr => ∃ (j n' : Nat) (L : List Int), gk + j = c ∧ q = .int .i64 j ∧ n' ≤ 50 + 20 * j ∧ Duo w wr pa s n' L [])
  case atStart => exact ⟨0, n, l, rfl, rfl, by omega, HD.out⟩
  case round =>
    obtain ⟨j, n', L, hgj, rfl, hn', hduo⟩ := hrel
    have HD := Lib.hid hduo
    have hs63 : n' ≤ 9223372036854775807 := row_n63 hduo.2.p1.row
    obtain ⟨sa', sc', rfl⟩ := row_slice hduo.2.p1.row
    clear hduo
    by_cases hlt : j < c
    · obtain ⟨b, off, rfl, hbl, hel⟩ := Hrow.out (by omega)
      obtain ⟨es, hes, hrd, hce⟩ := hel j hlt
      obtain ⟨a, ii, nn, x, xs, rfl, ha, hii, hnn, hx, hxb⟩ := act_of hes hrd
      have hcw := HD.out.2.chg
      have k0 := hcw.cell (hce 0 _ rfl) (by simp)
      have k1 := hcw.cell (hce 1 _ rfl) (by simp)
      have k2 := hcw.cell (hce 2 _ rfl) (by simp)
      have k3 := hcw.cell (hce 3 _ rfl) (by simp)
      simp only [Nat.add_zero] at k0
      obtain ⟨r, hr⟩ : ∃ r, r = xs.length := ⟨_, rfl⟩
      rw [← hr] at hx hxb
      obtain ⟨xa, xc, rfl⟩ := hx.form
      have hx63 := hx.n63
      have Hx := Lib.hid hx
      have Hxs := Lib.hid hr
      clear hx hr hrd hce hes hel hcw hbl
      have Ha := Lib.hid ha
      go_upto_block 2 with (fail)
      all_goals first | (go_ret; exact ⟨rfl, (HD.out.2.alloc0 _).below⟩) | skip
      obtain ⟨W1, hW1⟩ : ∃ W1, wr.alloc (.cells #[.int .u8 a, .int .i64 ii, .int .i64 nn, .slice xa r xc] 36) = W1 := ⟨_, rfl⟩
      obtain ⟨B, hB⟩ : ∃ B, B = wr.heap.size := ⟨_, rfl⟩
      obtain ⟨box, hbox⟩ : ∃ box, box = Asrt.obj B (.cells #[.int .u8 a, .int .i64 ii, .int .i64 nn, .slice xa r xc] 36 (0, 0)) := ⟨_, rfl⟩
      have hd1 : Duo w W1 pa (.slice sa' n' sc') n' L [box] := by rw [hbox, ← hW1, hB]; exact ⟨HD.out.1, (HD.out.2.alloc _ _).q2⟩
      have hr20 : r ≤ 20 := by omega
      rw [hW1, ← hB]
      have hm012 : a % 3 = 0 ∨ a % 3 = 1 ∨ a % 3 = 2 := by have := Ha.out; omega
      generalize a % 3 = m at *
      have Hd1 := Lib.hid hd1
      have Hbox := Lib.hid hbox
      clear hd1 hbox hW1 hB k0 k1 k2 k3
      have bx : ∀ (W : World) (X : List Asrt), Owns w W X → box ∈ X → W.heap[B]? = some (.cells #[.int .u8 a, .int .i64 ii, .int .i64 nn, .slice xa r xc] 36 (0, 0)) := fun {W X} H hm => by rw [Hbox.out] at hm; exact H.objs hm
      have Bx := Lib.hid bx
      clear bx
      go_cut [6] (fun s wx => ∃ (n2 : Nat) (L2 : List Int) (sa2 : Option Addr) (sc2 : Nat), s = .slice sa2 n2 sc2 ∧ n2 ≤ 50 + 20 * (j + 1) ∧ Duo w wx pa s n2 L2 [box])
      case first =>
        have hbx := Bx.out _ _ Hd1.out.2 (by simp)
        have b0 := cell_of_heap hbx (j := 0) rfl
        have b1 := cell_of_heap hbx (j := 1) rfl
        have b2 := cell_of_heap hbx (j := 2) rfl
        have b3 := cell_of_heap hbx (j := 3) rfl
        clear hbx
        have hmixed : Try.prog.follows .mixedOrders = true := by kernel_rfl
        rcases hm012 with rfl | rfl | rfl
        · as_aux_lemma =>
          by_cases hin : 0 ≤ ii ∧ ii ≤ n'
          · obtain ⟨q, rfl⟩ := Int.eq_ofNat_of_zero_le hin.1
            have hq1 : q ≤ n' := by omega
            have hq2 : (q : Int) ≤ n' := hin.2
            clear hin
            go_wp2_with fail
            refine (o_insert_int q _ (ints xs) Hd1.out.2 (Reads.old Hx.out) (ints_one _) (ints_one _) hq1 (by omega)).mono ?_
            rintro e w3 ⟨rfl, h3'⟩
            rw [show (ints L).take (q * 1) ++ ints xs ++ (ints L).drop (q * 1) = ints (L.take q ++ xs ++ L.drop q) by simp [ints_append, ints_take, ints_drop]] at h3'
            have hcap : q ≤ sc' := Nat.le_trans hq1 (SrcV.of_row h3'.p1.row).cap
            obtain ⟨la2, hla2⟩ : ∃ la2, (if sc' = q then sa' else Option.map (fun x => x.add q) sa') = la2 := ⟨_, rfl⟩
            obtain ⟨t1, x1, t2, x2, t3, x3, r1, r2, r3, g1, g2, g3⟩   := three (L := L) h3'.drew (Reads.row (e := 3) (by simp)) (Reads.old Hx.out) hq1 hq1 (by omega) hla2
            have d1 := cell_of_heap (Bx.out _ _ h3' (by simp)) (j := 1) rfl
            have d3 := cell_of_heap (Bx.out _ _ h3' (by simp)) (j := 3) rfl
            have e1 := cell_of_heap (Bx.out _ _ h3'.drew (by simp)) (j := 1) rfl
            have e3 := cell_of_heap (Bx.out _ _ h3'.drew (by simp)) (j := 3) rfl
            have f1 := cell_of_heap (Bx.out _ _ g1 (by simp)) (j := 1) rfl
            have f3 := cell_of_heap (Bx.out _ _ g1 (by simp)) (j := 3) rfl
            have i1 := cell_of_heap (Bx.out _ _ g2 (by simp)) (j := 1) rfl
            have i3 := cell_of_heap (Bx.out _ _ g2 (by simp)) (j := 3) rfl
            have hlen : (L.take q ++ xs ++ L.drop q).length = n' + r := by simp; have := Hd1.out.1; have := Hxs.out; omega
            rw [show q + r + (n' - q) = n' + r by omega] at g3
            obtain ⟨ta, tc, rfl⟩ := row_slice g3.row
            have Hdn := Lib.hid (show Duo w x3 pa (.slice ta (n' + r) tc) (n' + r) (L.take q ++ xs ++ L.drop q) [box] from ⟨hlen, g3.p2.drop.p1⟩)
            clear h3' g1 g2 g3 hlen
            go_wp2_with fail
            go_region_law (first | refine step_append_known rfl _ _ 31 31 rfl _ _ (by simp [Act.eval, Act.put]) (by simp [Act.eval, Act.put]) (r1 31) ?_ | refine step_append_known rfl _ _ 31 31 rfl _ _ (by simp [Act.eval, Act.put]) (by simp [Act.eval, Act.put]) (r2 31) ?_ | refine step_append_known rfl _ _ 31 31 rfl _ _ (by simp [Act.eval, Act.put]) (by simp [Act.eval, Act.put]) (r3 31) ?_)
            all_goals
              go_wp2_with fail
              go_meet
              case rel => exact ⟨_, _, _, _, rfl, by omega, Hdn.out⟩
          · rcases (show ii < 0 ∨ (0 ≤ ii ∧ n' < ii) by omega) with h1 | ⟨h1, h2⟩
            · have h4 : ¬ (0 ≤ ii) := by omega
              clear hin
              go_wp2_with fail
              refine (o_insert_out_int ii _ (ints xs) Hd1.out.2 (Reads.old Hx.out) (by omega)).mono ?_
              rintro e w3 ⟨rfl, rfl⟩
              go_wp2_with fail
              go_meet
              case rel => exact ⟨n', L, sa', sc', rfl, by omega, Hd1.out⟩
            · have h4 : ¬ (ii ≤ (n' : Int)) := by omega
              clear hin
              go_wp2_with fail
              refine (o_insert_out_int ii _ (ints xs) Hd1.out.2 (Reads.old Hx.out) (by omega)).mono ?_
              rintro e w3 ⟨rfl, rfl⟩
              go_wp2_with fail
              go_meet
              case rel => exact ⟨n', L, sa', sc', rfl, by omega, Hd1.out⟩
        · as_aux_lemma =>
          by_cases hin : 0 ≤ ii ∧ ii < n'
          · obtain ⟨q, rfl⟩ := Int.eq_ofNat_of_zero_le hin.1
            have hq1 : q < n' := by omega
            have hq2 : (q : Int) < n' := hin.2
            clear hin
            by_cases hn1 : nn < 1
            · have hmn : min (max nn 0) ((n' : Int) - q) = 0 := by omega
              go_wp2_with fail
              refine (o_delete_out_int q nn Hd1.out.2 (.inr (by omega))).mono ?_
              rintro e w3 ⟨rfl, rfl⟩
              go_wp2_with fail
              go_roundg (gk - 1)
              case measure => omega
              case rel => exact ⟨j + 1, n', L, by omega, by go_num, by omega, Hd1.out.1, Hd1.out.2.p2.drop⟩
            · obtain ⟨r1, hmn⟩ : ∃ r1 : Nat, min (max nn 0) ((n' : Int) - q) = r1 := ⟨(min (max nn 0) ((n' : Int) - q)).toNat, by omega⟩
              have hr1 : 1 ≤ r1 := by omega
              have hqr : q + r1 ≤ n' := by omega
              have hcap : n' ≤ sc' := (SrcV.of_row Hd1.out.2.p1.row).cap
              have hcq : ¬ (sc' = q) := by omega
              have hr0 : ¬ ((r1 : Int) = 0) := by omega
              obtain ⟨la2, hla2⟩ : ∃ la2, (if sc' = q + r1 then sa' else Option.map (fun x => x.add (q + r1)) sa') = la2 := ⟨_, rfl⟩
              go_wp2_with fail
              refine (o_delete_int q r1 nn Hd1.out.2 (ints_one _) hq1 (by omega) (by omega) (by omega) (by omega)).mono ?_
              rintro e w3 ⟨d, rfl, h3'⟩
              rw [show (ints L).take (q * 1) ++ (ints L).drop ((q + r1) * 1) = ints (L.take q ++ L.drop (q + r1)) by simp [ints_append, ints_take, ints_drop], show ((ints L).drop (q * 1)).take (r1 * 1) = ints ((L.drop q).take r1) by simp [ints_take, ints_drop]] at h3'
              have H3 := Lib.hid h3'
              have Hd2 := Lib.hid (show ((L.drop q).take r1).length = r1 by simp; have := Hd1.out.1; omega)
              have hrd := Reads.mid (Reads.row (e := 3) (v := .slice sa' n' sc') (n := n') (xs := ints L) (w0 := w) (R := [vec_int pa (n' - r1) (ints (L.take q ++ L.drop (q + r1))), row_int d r1 (ints ((L.drop q).take r1)), row_int (.slice sa' n' sc') n' (ints L), box]) (by simp)) hqr hcq
              rw [← ints_drop, ← ints_take] at hrd
              have Hrd := Lib.hid hrd
              clear hrd
              have d1 := cell_of_heap (Bx.out _ _ h3' (by simp)) (j := 1) rfl
              obtain ⟨da, dc, hdv⟩ := row_slice h3'.p1.row
              subst hdv
              clear h3'
              go_wp2_with fail
              refine (o_same_true (L := (L.drop q).take r1) _ _ H3.out Hd2.out (Reads.row (e := 3) (by simp)) Hrd.out).mono ?_
              rintro e w5 ⟨rfl, h5⟩
              obtain ⟨t1, x1, t3, x3, r1', r3', g1, g3⟩ := two (L := L) h5.drew (Reads.row (e := 3) (v := .slice sa' n' sc') (n := n') (by simp)) (Nat.le_of_lt hq1) hqr (by omega) hla2
              have d1 := cell_of_heap (Bx.out _ _ h5 (by simp)) (j := 1) rfl
              have d2 := cell_of_heap (Bx.out _ _ h5 (by simp)) (j := 2) rfl
              have e1 := cell_of_heap (Bx.out _ _ h5.drew (by simp)) (j := 1) rfl
              have e2 := cell_of_heap (Bx.out _ _ h5.drew (by simp)) (j := 2) rfl
              have f1 := cell_of_heap (Bx.out _ _ g1 (by simp)) (j := 1) rfl
              have f2 := cell_of_heap (Bx.out _ _ g1 (by simp)) (j := 2) rfl
              have hlen : (L.take q ++ L.drop (q + r1)).length = n' - r1 := by simp; have := Hd1.out.1; omega
              rw [show q + (n' - (q + r1)) = n' - r1 by omega] at g3
              obtain ⟨ta, tc, rfl⟩ := row_slice g3.row
              have Hdn := Lib.hid (show Duo w x3 pa (.slice ta (n' - r1) tc) (n' - r1) (L.take q ++ L.drop (q + r1)) [box] from ⟨hlen, g3.p1.p2.drop.p2.drop⟩)
              have hwr : IntKind.i64.wrap ((q : Int) + (r1 : Int)) = (q : Int) + (r1 : Int) := by rw [IntKind.wrap_i64]; omega
              have hwr0 : (0 : Int) ≤ (q : Int) + (r1 : Int) := by omega
              have hwn : ((q : Int) + (r1 : Int)).toNat = q + r1 := by omega
              have hcap2 : q + r1 ≤ sc' := by omega
              have hcap3 : q ≤ sc' := by omega
              have hqrI : (q : Int) + (r1 : Int) ≤ (n' : Int) := by omega
              clear h5 g1 g3 hlen
              go_wp2_with fail
              go_region_law (first | refine step_append_known rfl _ _ 31 31 rfl _ _ (by simp [Act.eval, Act.put]) (by simp [Act.eval, Act.put]) (r1' 31) ?_ | refine step_append_known rfl _ _ 31 31 rfl _ _ (by simp [Act.eval, Act.put]) (by simp [Act.eval, Act.put]) (r3' 31) ?_)
              all_goals
                go_wp2_with fail
                go_meet
                case rel => exact ⟨_, _, _, _, rfl, by omega, Hdn.out⟩
          · rcases (show ii < 0 ∨ (0 ≤ ii ∧ n' ≤ ii) by omega) with h1 | ⟨h1, h2⟩
            · have h4 : ¬ (0 ≤ ii) := by omega
              clear hin
              go_wp2_with fail
              refine (o_delete_out_int ii nn Hd1.out.2 (.inl (by omega))).mono ?_
              rintro e w3 ⟨rfl, rfl⟩
              go_wp2_with fail
              go_roundg (gk - 1)
              case measure => omega
              case rel => exact ⟨j + 1, n', L, by omega, by go_num, by omega, Hd1.out.1, Hd1.out.2.p2.drop⟩
            · have h4 : ¬ (ii < (n' : Int)) := by omega
              clear hin
              go_wp2_with fail
              refine (o_delete_out_int ii nn Hd1.out.2 (.inl (by omega))).mono ?_
              rintro e w3 ⟨rfl, rfl⟩
              go_wp2_with fail
              go_roundg (gk - 1)
              case measure => omega
              case rel => exact ⟨j + 1, n', L, by omega, by go_num, by omega, Hd1.out.1, Hd1.out.2.p2.drop⟩
        · as_aux_lemma =>
          by_cases hin : 0 ≤ ii ∧ ii < n'
          · obtain ⟨q, rfl⟩ := Int.eq_ofNat_of_zero_le hin.1
            have hq1 : q < n' := by omega
            have hq2 : (q : Int) < n' := hin.2
            clear hin
            go_wp2_with fail
            refine (o_set_int q (.int .i64 nn) rfl Hd1.out.2 hq1).mono ?_
            rintro e w3 ⟨rfl, h3'⟩
            rw [← ints_set] at h3'
            obtain ⟨t1, x1, r1, g1⟩ := app0_int h3' (Reads.row (e := 3) (v := .slice sa' n' sc') (n := n') (by simp)) (ints_one L) (by unfold maxLen; omega) (by omega)
            obtain ⟨g, cap, y, rfl, hgc, cy, fy, g2⟩ := g1.rowSet hq1 (.int .i64 nn)
            rw [← ints_set] at g2
            have d1 := cell_of_heap (Bx.out _ _ h3' (by simp)) (j := 1) rfl
            have e1 := cell_of_heap (Bx.out _ _ g1 (by simp)) (j := 1) rfl
            have e2 := cell_of_heap (Bx.out _ _ g1 (by simp)) (j := 2) rfl
            have hlen : (L.set q nn).length = n' := by simp; exact Hd1.out.1
            have Hdn := Lib.hid (show Duo w (x1.setCell ⟨g, q, none⟩ (.int .i64 nn)) pa (.slice (some ⟨g, 0, none⟩) n' cap) n' (L.set q nn) [box] from ⟨hlen, g2.p2.drop.p1⟩)
            have hq3 : q < n' := hq1
            clear h3' g1 g2 hlen
            go_wp2_with (at_builtin; refine Lib.wpList_append_run _ rfl _ _ _ _ rfl _ _ rfl rfl _ _ (r1 _) ?_)
            go_meet
            case rel => exact ⟨_, _, _, _, rfl, by omega, Hdn.out⟩
          · rcases (show ii < 0 ∨ (0 ≤ ii ∧ n' ≤ ii) by omega) with h1 | ⟨h1, h2⟩
            · have h4 : ¬ (0 ≤ ii) := by omega
              clear hin
              go_wp2_with fail
              refine (o_set_out_int ii (.int .i64 nn) Hd1.out.2 (by omega)).mono ?_
              rintro e w3 ⟨rfl, rfl⟩
              go_wp2_with fail
              go_meet
              case rel => exact ⟨n', L, sa', sc', rfl, by omega, Hd1.out⟩
            · have h4 : ¬ (ii < (n' : Int)) := by omega
              clear hin
              go_wp2_with fail
              refine (o_set_out_int ii (.int .i64 nn) Hd1.out.2 (by omega)).mono ?_
              rintro e w3 ⟨rfl, rfl⟩
              go_wp2_with fail
              go_meet
              case rel => exact ⟨n', L, sa', sc', rfl, by omega, Hd1.out⟩
      case rest =>
        as_aux_lemma =>
        obtain ⟨n2, L2, sa2, sc2, rfl, hn2, hd2⟩ := hcut
        have b1 := cell_of_heap (Bx.out _ _ hd2.2 (by simp)) (j := 1) rfl
        have HD2 := Lib.hid hd2
        have hs263 : n2 ≤ 9223372036854775807 := row_n63 hd2.2.p1.row
        clear hd2
        have hall : ∀ W, W = wc → Calls Try.prog 19 #[.pointer (some ⟨pa, 0, none⟩), .slice sa2 n2 sc2] W (Ret (.bool true) w [vec_int pa n2 (ints L2), row_int (.slice sa2 n2 sc2) n2 (ints L2), box]) := by
          rintro W rfl
          have hL := HD2.out.1
          subst hL
          exact o_all_true _ HD2.out.2 (Reads.row (e := 3) (by simp)) (by omega)
        have Hall := Lib.hid hall
        clear hall
        by_cases hin : 0 ≤ ii ∧ ii < n2
        · obtain ⟨q, rfl⟩ := Int.eq_ofNat_of_zero_le hin.1
          have hq1 : q < n2 := by omega
          have hq2 : (q : Int) < n2 := hin.2
          clear hin
          obtain ⟨gb, go, gc, e1, _, _, e3⟩ := (SrcV.of_row HD2.out.2.p1.row).cells (by omega) (by decide)
          cases e1
          have hx := ints_get L2 (k := q) (by have := HD2.out.1; omega)
          have cx := e3 q _ hx
          have Hgx := Lib.hid hx
          clear e3 hx
          generalize L2[q]?.getD 0 = y at *
          go_wp2_with fail
          refine (o_at_int q (.int .i64 y) HD2.out.2 hq1 Hgx.out).mono ?_
          rintro e w5 ⟨rfl, rfl⟩
          go_wp2_with fail
          refine (Hall.out _ rfl).mono ?_
          rintro e w5 ⟨rfl, hc5⟩
          have HD5 := Lib.hid (show Duo w w5 pa _ n2 L2 [] from ⟨HD2.out.1, hc5.p2.drop⟩)
          clear hc5
          go_wp2_with fail
          go_roundg (gk - 1)
          case measure => omega
          case rel => exact ⟨j + 1, n2, L2, by omega, by go_num, by omega, HD5.out⟩
        · have hin2 : ¬ (0 ≤ ii ∧ ii < (n2 : Int)) := hin
          clear hin
          rcases (show ii < 0 ∨ (0 ≤ ii ∧ n2 ≤ ii) by omega) with h1 | ⟨h1, h2⟩
          · have h3 : ¬ (0 ≤ ii) := by omega
            clear hin2
            go_wp2_with fail
            refine (o_at_out_int ii HD2.out.2 (by omega)).mono ?_
            rintro e w5 ⟨rfl, rfl⟩
            go_wp2_with fail
            refine (Hall.out _ rfl).mono ?_
            rintro e w5 ⟨rfl, hc5⟩
            have HD5 := Lib.hid (show Duo w w5 pa _ n2 L2 [] from ⟨HD2.out.1, hc5.p2.drop⟩)
            clear hc5
            go_wp2_with fail
            go_roundg (gk - 1)
            case measure => omega
            case rel => exact ⟨j + 1, n2, L2, by omega, by go_num, by omega, HD5.out⟩
          · have h3 : ¬ (ii < (n2 : Int)) := by omega
            clear hin2
            go_wp2_with fail
            refine (o_at_out_int ii HD2.out.2 (by omega)).mono ?_
            rintro e w5 ⟨rfl, rfl⟩
            go_wp2_with fail
            refine (Hall.out _ rfl).mono ?_
            rintro e w5 ⟨rfl, hc5⟩
            have HD5 := Lib.hid (show Duo w w5 pa _ n2 L2 [] from ⟨HD2.out.1, hc5.p2.drop⟩)
            clear hc5
            go_wp2_with fail
            go_roundg (gk - 1)
            case measure => omega
            case rel => exact ⟨j + 1, n2, L2, by omega, by go_num, by omega, HD5.out⟩
    · obtain rfl : j = c := by omega
      have hall : Calls Try.prog 19 #[.pointer (some ⟨pa, 0, none⟩), .slice sa' n' sc'] wr (Ret (.bool true) w [vec_int pa n' (ints L), row_int (.slice sa' n' sc') n' (ints L)]) := by
        have hL := HD.out.1
        subst hL
        exact o_all_true _ HD.out.2 (Reads.row (e := 3) (by simp)) (by omega)
      have Hall := Lib.hid hall
      clear hall
      go_wp2_with fail
      refine Hall.out.mono ?_
      rintro e w5 ⟨rfl, hc5⟩
      have HD5 := Lib.hid hc5
      clear hc5
      go_wp2_with fail
      go_ret
      exact ⟨rfl, HD5.out.below⟩
end Go.Proofs.Ytielhbhiallcpaa
