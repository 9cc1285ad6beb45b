/- The law VecTexts on values that read. -/
import Derived.Test.YtielhbhiallcpaaHeld
import Derived.Test.YtielhbhiallcpaaBreak
import Derived.Test.YtielhbhiallcpaaKnown
import Derived.Test.YtielhbhiallcpaaVecIns3Str
import Derived.Test.YtielhbhiallcpaaVecAtStr
namespace Go.Proofs.Ytielhbhiallcpaa
open Go Go.RowKit Go.Fol
attribute [local go_sem] Oper.semAt_some
attribute [local go_sem ↓] run_min2 run_max2
set_option linter.unusedVariables false
set_option linter.unusedSimpArgs false

set_option maxHeartbeats 4000000 in
set_option maxRecDepth 100000 in
theorem vecTexts_walk (w : World) (v0 v1 v2 : Value) (a0 : Arg Try.prog w 22 v0) (a1 : Arg Try.prog w 3 v1) (a2 : Arg Try.prog w 22 v2) :
    Calls Try.prog 3 #[v0, v1, v2] w fun e w' => e = .returned (.bool true) ∧ Below w.heap.size w w' := by
  obtain ⟨l, hl, hlb, _⟩ := arg_strs Try.underlying22 Try.underlying9 (by kernel_rfl) (by kernel_rfl) a0
  obtain ⟨i, rfl, hat⟩ := arg_int Try.underlying3 a1
  obtain ⟨m, hm, hmb, _⟩ := arg_strs Try.underlying22 Try.underlying9 (by kernel_rfl) (by kernel_rfl) a2
  clear hat
  obtain ⟨n, hn⟩ : ∃ n, n = l.length := ⟨_, rfl⟩
  obtain ⟨k, hr⟩ : ∃ r, r = m.length := ⟨_, rfl⟩
  rw [← hn] at hl hlb
  rw [← hr] at hm hmb
  obtain ⟨la, lc, rfl⟩ := hl.form
  obtain ⟨ma, mc, rfl⟩ := hm.form
  have hl63 := hl.n63
  have hm63 := hm.n63
  have Hl := Lib.hid hl
  have Hm := Lib.hid hm
  have Hn := Lib.hid hn
  have Hr := Lib.hid hr
  clear a0 a1 a2 hl hm hn hr
  obtain ⟨i0, hi0, hz0, hz1, hz2⟩ := info_parts info_str
  have app0 : ∀ W : World, Chg [] w W → ∃ v' W', (∀ ty, (Builtin.append_ #[22, 22] ty #[.slice none 0 0, .slice la n lc]).run Try.prog W = .ok v' W') ∧ W'.ownsRow 0 9 1 v' n (strs l) ∧ Chg [] W W' ∧ (∀ b, v'.ownBlock = some b → W.heap.size ≤ b) := by
    intro W hW
    obtain ⟨v', w', h1, h2, h3, h4⟩ := run_append_src (P := Try.prog) W 22 22 9 i0 _ 1 16 Try.underlying22 hi0 hz0 hz1 hz2 rfl (by decide) (.slice none 0 0) 0 [] (World.ownsRow_nil _ _ _ _) _ n _ (Hl.out.keep hW (by simp)) (strs_one _) (by unfold maxLen; omega) (by omega)
    exact ⟨v', w', fun _ => h1, by simpa using h2, h3, fun b hb => (h4 b hb).resolve_left (fun e => by cases e)⟩
  have App0 := Lib.hid app0
  clear app0
  go_enter Try.func3, Try.ntmps3
  go_wp2_with fail
  refine (known_true w).mono ?_
  rintro e w0 ⟨rfl, hc0⟩
  have Hc0 := Lib.hid hc0
  have hbel : Below w.heap.size w w0 := hc0.below (Nat.le_refl _) (by simp)
  have Hbel := Lib.hid hbel
  clear hc0 hbel
  obtain ⟨sv1, w1, hr1, ho1, hc1, hn1⟩ := App0.out w0 Hc0.out
  have Ho1 := Lib.hid ho1
  have Hc1 := Lib.hid hc1
  have Hn1 := Lib.hid hn1
  clear ho1 hc1 hn1
  go_wp2_with (at_builtin; refine Lib.wpList_append_run _ rfl _ _ _ _ rfl _ _ rfl rfl _ _ (hr1 _) ?_)
  all_goals first | (go_ret; exact ⟨rfl, Hbel.out⟩) | skip
  clear hr1
  obtain ⟨ga, gc, rfl⟩ := row_slice Ho1.out
  go_wp2_with fail
  refine (new_str _ n (strs l) w1 (SrcV.of_row Ho1.out) (strs_one _) (by omega)).mono ?_
  rintro e w2 ⟨pa, sa, rfl, hv, hc, hnew⟩
  have O1 := Lib.hid (Own.of_new (Hc0.out.nil_trans Hc1.out) hv hc hnew)
  obtain ⟨g, hg⟩ : ∃ g, 0 < n → ga = some ⟨g, 0, none⟩ ∧ w.heap.size ≤ g ∧ g ∉ vfoot pa sa ∧ ∃ cur, w2.heap[g]? = some (.cells cur 9 (0, 0)) ∧ n ≤ cur.size := by
    rcases row_form Ho1.out with ⟨_, h, _⟩ | ⟨g, cap, cur, e, hg, h1, _, h2, _⟩
    · exact ⟨0, fun h0 => by omega⟩
    · cases e
      refine ⟨g, fun _ => ⟨rfl, Nat.le_trans Hc0.out.size (Hn1.out g rfl), fun hm => Nat.lt_irrefl _ (Nat.lt_of_lt_of_le (heap_lt hg) (hnew g hm)), cur, hc.heap hg (by simp), by omega⟩⟩
  have Hg := Lib.hid hg
  clear hv hc hnew hg Ho1 Hc1 Hn1
  go_wp2_with fail
  go_loopw [9] (fun x wr => ∃ (j : Nat), j ≤ n ∧ x = .int .i64 j ∧ Fol.Own w wr 53 9 1 pa sa n (strs l) ∧ (0 < n → ∃ cur, wr.heap[g]? = some (.cells cur 9 (0, 0)) ∧ n ≤ cur.size)) (fun x _ => n - (intOf x).toNat)
  case atStart => exact ⟨0, Nat.zero_le _, rfl, O1.out, fun h => (Hg.out h).2.2.2⟩
  case round =>
    obtain ⟨j, hj, rfl, ho, hb⟩ := hrel
    have HO := Lib.hid ho
    clear ho
    by_cases hlt : j < n
    · obtain ⟨rfl, hwg, hgn, _⟩ := Hg.out (by omega)
      obtain ⟨cur, hcur, hsz⟩ := hb (by omega)
      have hjc : j < cur.size := by omega
      have cg := cell_of_heap hcur (j := j) (Array.getElem?_eq_getElem hjc)
      have fg := frozen_of_heap hcur j
      have hch : Chg [g] wr (wr.setCell ⟨g, j, none⟩ (.string ⟨#[120]⟩)) := (Chg.refl _ wr).setCell (fun _ => by simp) _
      have ho2 := HO.out.set hch hwg hgn
      have hb2 : ∃ cur, (wr.setCell ⟨g, j, none⟩ (.string ⟨#[120]⟩)).heap[g]? = some (.cells cur 9 (0, 0)) ∧ n ≤ cur.size := ⟨_, heap_set_same hcur (j := j) _, by simpa using hsz⟩
      have HO2 := Lib.hid ho2
      have HB2 := Lib.hid hb2
      clear ho2 hb2 hch hcur hb hwg hgn
      go_wp2_with fail
      go_roundw
      case rel => exact ⟨j + 1, by omega, by go_num, HO2.out, fun _ => HB2.out⟩
      case measure => simp [intOf]; omega
    · clear hb Hg
      by_cases hin : 0 ≤ i ∧ i ≤ n
      · obtain ⟨i, rfl⟩ := Int.eq_ofNat_of_zero_le hin.1
        have hin1 : i ≤ n := by omega
        have hin2 : (i : Int) ≤ n := hin.2
        clear hin
        go_wp2_with fail
        refine (insert_in_str pa i _ sa n k (strs l) (strs m) wr HO.out.vec (HO.out.src Hm.out) (HO.out.off_src Hm.out (by decide)) (strs_one _) (strs_one _) (by omega) (by omega) (by omega)).mono ?_
        rintro e w3 ⟨sa3, rfl, hv3, hm3⟩
        obtain ⟨L, hL⟩ : ∃ L, L = l.take i ++ m ++ l.drop i := ⟨_, rfl⟩
        rw [show (strs l).take ((i : Int).toNat * 1) ++ strs m ++ (strs l).drop ((i : Int).toNat * 1) = strs L by simp [hL, strs_append, strs_take, strs_drop]] at hv3
        have O3 := Lib.hid (HO.out.moved hv3 hm3)
        have hLl : L.length = n + k := by rw [hL]; simp; have := Hn.out; have := Hr.out; omega
        have HLl := Lib.hid hLl
        clear hv3 hm3 HO O1 hLl
        obtain ⟨sv4, w4, hr4, ho4, hc4, hn4⟩ := App0.out w3 O3.out.chg
        have Hc4 := Lib.hid hc4
        clear ho4 hc4 hn4
        go_wp2_with (at_builtin; refine Lib.wpList_append_run _ rfl _ _ _ _ rfl _ _ rfl rfl _ _ (hr4 _) ?_)
        clear hr4
        have hlw := (O3.out.src Hl.out).keep (Hc4.out.drew) (fun _ _ => by simp)
        have hmw := (O3.out.src Hm.out).keep (Hc4.out.drew) (fun _ _ => by simp)
        have hin' : i ≤ lc := by have := Hl.out; rcases this with ⟨h, h2, _⟩ | ⟨a, c, h, h2, _⟩ <;> cases h <;> omega
        obtain ⟨la2, hla2⟩ : ∃ la2, (if lc = i then la else Option.map (fun x => x.add i) la) = la2 := ⟨_, rfl⟩
        have hs1 : SrcV w4.drew 1 (.slice la i lc) i (strs (l.take i)) := by
          have := hlw.sliced (i := 0) (j := i) (by omega) (by omega) (by decide)
          have e : sliced la 0 i lc 1 = .slice la i lc := by
            unfold sliced
            cases la <;> simp [Addr.add]
          rw [e] at this
          simpa [strs_take] using this
        have hs2 : SrcV w4.drew 1 (.slice la2 (n - i) (lc - i)) (n - i) (strs (l.drop i)) := by
          have := hlw.sliced (i := i) (j := n) (by omega) (by omega) (by decide)
          rw [List.take_of_length_le (by rw [List.length_drop, strs_len]; have := Hn.out; omega)] at this
          have e : sliced la i n lc 1 = .slice la2 (n - i) (lc - i) := by
            unfold sliced
            rw [← hla2, Nat.mul_one]
          rw [e] at this
          simpa [strs_drop] using this
        obtain ⟨t1, x1, ha1, ho1, hc1, hn1⟩ : ∃ v' w', (∀ ty, (Builtin.append_ #[22, 22] ty #[.slice none 0 0, .slice la i lc]).run Try.prog w4.drew = .ok v' w') ∧ w'.ownsRow 0 9 1 v' i (strs (l.take i)) ∧ Chg [] w4.drew w' ∧ (∀ b, v'.ownBlock = some b → w4.heap.size ≤ b) := by
          obtain ⟨v', w', h1, h2, h3, h4⟩ := run_append_src (P := Try.prog) w4.drew 22 22 9 i0 _ 1 16 Try.underlying22 hi0 hz0 hz1 hz2 rfl (by decide) (.slice none 0 0) 0 [] (World.ownsRow_nil _ _ _ _) _ i _ hs1 (strs_one _) (by unfold maxLen; omega) (by omega)
          exact ⟨v', w', fun _ => h1, by simpa using h2, h3, fun b hb => (h4 b hb).resolve_left (fun e => by cases e)⟩
        obtain ⟨t2, x2, ha2, ho2, hc2, hn2⟩ : ∃ v' w', (∀ ty, (Builtin.append_ #[22, 22] ty #[t1, .slice ma k mc]).run Try.prog x1 = .ok v' w') ∧ w'.ownsRow 0 9 1 v' (i + k) (strs (l.take i ++ m)) ∧ Chg [] w4.drew w' ∧ (∀ b, v'.ownBlock = some b → w4.heap.size ≤ b) := by
          obtain ⟨v', w', h1, h2, h3, h4⟩ := run_append_src (P := Try.prog) x1 22 22 9 i0 _ 1 16 Try.underlying22 hi0 hz0 hz1 hz2 rfl (by decide) t1 i _ ho1 _ k _ (hmw.keep hc1 (fun _ _ => by simp)) (strs_one _) (by unfold maxLen; omega) (by omega)
          exact ⟨v', w', fun _ => h1, by rw [strs_append]; exact h2, hc1.trans h3 (fun b hb hl => by simp at hb; exact absurd hl (Nat.not_lt.2 (hn1 b hb))), fun b hb => (h4 b hb).elim (hn1 b) (fun h => Nat.le_trans hc1.size h)⟩
        obtain ⟨t3, x3, ha3, ho3, hc3, hn3⟩ : ∃ v' w', (∀ ty, (Builtin.append_ #[22, 22] ty #[t2, .slice la2 (n - i) (lc - i)]).run Try.prog x2 = .ok v' w') ∧ w'.ownsRow 0 9 1 v' (n + k) (strs L) ∧ Chg [] w4.drew w' ∧ (∀ b, v'.ownBlock = some b → w4.heap.size ≤ b) := by
          obtain ⟨v', w', h1, h2, h3, h4⟩ := run_append_src (P := Try.prog) x2 22 22 9 i0 _ 1 16 Try.underlying22 hi0 hz0 hz1 hz2 rfl (by decide) t2 _ _ ho2 _ (n - i) _ (hs2.keep hc2 (fun _ _ => by simp)) (strs_one _) (by unfold maxLen; omega) (by omega)
          refine ⟨v', w', fun _ => h1, ?_, hc2.trans h3 (fun b hb hl => by simp at hb; exact absurd hl (Nat.not_lt.2 (hn2 b hb))), fun b hb => (h4 b hb).elim (hn2 b) (fun h => Nat.le_trans hc2.size h)⟩
          rw [hL, strs_append (l.take i ++ m), show n + k = i + k + (n - i) by omega]
          exact h2
        have hmixed : Try.prog.follows .mixedOrders = true := by kernel_rfl
        go_region_law (first | refine step_append_known rfl _ _ 22 22 rfl _ _ (by simp [Act.eval, Act.put]) (by simp [Act.eval, Act.put]) (ha1 22) ?_ | refine step_append_known rfl _ _ 22 22 rfl _ _ (by simp [Act.eval, Act.put]) (by simp [Act.eval, Act.put]) (ha2 22) ?_ | refine step_append_known rfl _ _ 22 22 rfl _ _ (by simp [Act.eval, Act.put]) (by simp [Act.eval, Act.put]) (ha3 22) ?_)
        have OT := Lib.hid (O3.out.quiet ((Hc4.out.drew).nil_trans hc3))
        have WT := Lib.hid (SrcV.of_row ho3)
        clear ho1 hc1 hn1 ho2 hc2 hn2 ho3 hc3 hn3 ha1 ha2 ha3 hs1 hs2 hlw hmw hla2 O3 Hc4 hL
        obtain ⟨wa, wc, rfl⟩ := WT.out.form
        try go_wp2_with fail
        refine (len_str pa _ _ _ _ OT.out.vec).mono ?_
        rintro e w5 ⟨rfl, rfl⟩
        go_wp2_with fail
        go_loopw [12] (fun x wr => ∃ (j : Nat), j ≤ (n + k) ∧ x = .int .i64 j ∧ wr = x3) (fun x _ => (n + k) - (intOf x).toNat)
        case atStart => exact ⟨0, Nat.zero_le _, rfl, rfl⟩
        case round =>
          obtain ⟨j, hj, rfl, rfl⟩ := hrel
          by_cases hlt : j < (n + k)
          · obtain ⟨ab, ao, ac', e1, _, _, e3⟩ := WT.out.cells (by omega) (by decide)
            cases e1
            have hx := strs_get L (k := j) (by have := HLl.out; omega)
            have cx := e3 j _ hx
            have Hx := Lib.hid hx
            clear e3 hx
            generalize L[j]?.getD ⟨#[]⟩ = x at *
            go_wp2_with fail
            refine (at_in_str pa j (.string x) _ _ _ _ OT.out.vec (by omega) (by omega) Hx.out).mono ?_
            rintro e w6 ⟨rfl, rfl⟩
            go_wp2_with fail
            go_roundw
            case rel => exact ⟨j + 1, by omega, by go_num, trivial⟩
            case measure => simp [intOf]; omega
          · go_wp2_with fail
            refine (at_out_str pa _ _ _ _ _ OT.out.vec (by omega)).mono ?_
            rintro e w6 ⟨rfl, rfl⟩
            go_wp2_with fail
            go_ret
            exact ⟨rfl, OT.out.chg.below (Nat.le_refl _) (by simp)⟩
      · have hin2 : ¬ (0 ≤ i ∧ i ≤ (n : Int)) := hin
        have hcnd : (decide (0 ≤ i) && decide (i ≤ (n : Int))) = false := by
          by_cases h1 : 0 ≤ i <;> by_cases h2 : i ≤ (n : Int) <;> simp [h1, h2] <;> omega
        clear hin
        obtain ⟨sv4, x3, hr4, ho4, hc4, hn4⟩ := App0.out wr HO.out.chg
        have OT := Lib.hid (HO.out.quiet hc4)
        have WT := Lib.hid (SrcV.of_row ho4)
        have HLl := Hn
        clear ho4 hc4 hn4
        rcases (show i < 0 ∨ (0 ≤ i ∧ n < i) by omega) with h1 | ⟨h1, h2⟩
        · have h3 : ¬ (0 ≤ i) := by omega
          clear hin2
          go_wp2_with fail
          refine (insert_out_str pa i _ sa n k (strs l) (strs m) wr HO.out.vec (HO.out.src Hm.out) (by omega)).mono ?_
          rintro e w3 ⟨rfl, rfl⟩
          go_wp2_with (at_builtin; refine Lib.wpList_append_run _ rfl _ _ _ _ rfl _ _ rfl rfl _ _ (hr4 _) ?_)
          clear hr4 HO O1
          obtain ⟨wa, wc, rfl⟩ := WT.out.form
          try go_wp2_with fail
          refine (len_str pa _ _ _ _ OT.out.vec).mono ?_
          rintro e w5 ⟨rfl, rfl⟩
          go_wp2_with fail
          go_loopw [12] (fun x wr => ∃ (j : Nat), j ≤ n ∧ x = .int .i64 j ∧ wr = x3) (fun x _ => n - (intOf x).toNat)
          case atStart => exact ⟨0, Nat.zero_le _, rfl, rfl⟩
          case round =>
            obtain ⟨j, hj, rfl, rfl⟩ := hrel
            by_cases hlt : j < n
            · obtain ⟨ab, ao, ac', e1, _, _, e3⟩ := WT.out.cells (by omega) (by decide)
              cases e1
              have hx := strs_get l (k := j) (by have := HLl.out; omega)
              have cx := e3 j _ hx
              have Hx := Lib.hid hx
              clear e3 hx
              generalize l[j]?.getD ⟨#[]⟩ = x at *
              go_wp2_with fail
              refine (at_in_str pa j (.string x) _ _ _ _ OT.out.vec (by omega) (by omega) Hx.out).mono ?_
              rintro e w6 ⟨rfl, rfl⟩
              go_wp2_with fail
              go_roundw
              case rel => exact ⟨j + 1, by omega, by go_num, trivial⟩
              case measure => simp [intOf]; omega
            · go_wp2_with fail
              refine (at_out_str pa _ _ _ _ _ OT.out.vec (by omega)).mono ?_
              rintro e w6 ⟨rfl, rfl⟩
              go_wp2_with fail
              go_ret
              exact ⟨rfl, OT.out.chg.below (Nat.le_refl _) (by simp)⟩
        · have h3 : ¬ (i ≤ (n : Int)) := by omega
          clear hin2
          go_wp2_with fail
          refine (insert_out_str pa i _ sa n k (strs l) (strs m) wr HO.out.vec (HO.out.src Hm.out) (by omega)).mono ?_
          rintro e w3 ⟨rfl, rfl⟩
          go_wp2_with (at_builtin; refine Lib.wpList_append_run _ rfl _ _ _ _ rfl _ _ rfl rfl _ _ (hr4 _) ?_)
          clear hr4 HO O1
          obtain ⟨wa, wc, rfl⟩ := WT.out.form
          try go_wp2_with fail
          refine (len_str pa _ _ _ _ OT.out.vec).mono ?_
          rintro e w5 ⟨rfl, rfl⟩
          go_wp2_with fail
          go_loopw [12] (fun x wr => ∃ (j : Nat), j ≤ n ∧ x = .int .i64 j ∧ wr = x3) (fun x _ => n - (intOf x).toNat)
          case atStart => exact ⟨0, Nat.zero_le _, rfl, rfl⟩
          case round =>
            obtain ⟨j, hj, rfl, rfl⟩ := hrel
            by_cases hlt : j < n
            · obtain ⟨ab, ao, ac', e1, _, _, e3⟩ := WT.out.cells (by omega) (by decide)
              cases e1
              have hx := strs_get l (k := j) (by have := HLl.out; omega)
              have cx := e3 j _ hx
              have Hx := Lib.hid hx
              clear e3 hx
              generalize l[j]?.getD ⟨#[]⟩ = x at *
              go_wp2_with fail
              refine (at_in_str pa j (.string x) _ _ _ _ OT.out.vec (by omega) (by omega) Hx.out).mono ?_
              rintro e w6 ⟨rfl, rfl⟩
              go_wp2_with fail
              go_roundw
              case rel => exact ⟨j + 1, by omega, by go_num, trivial⟩
              case measure => simp [intOf]; omega
            · go_wp2_with fail
              refine (at_out_str pa _ _ _ _ _ OT.out.vec (by omega)).mono ?_
              rintro e w6 ⟨rfl, rfl⟩
              go_wp2_with fail
              go_ret
              exact ⟨rfl, OT.out.chg.below (Nat.le_refl _) (by simp)⟩
end Go.Proofs.Ytielhbhiallcpaa
