/- The law VecJoins on values that read. -/
import Derived.Test.YtielhbhiallcpaaHeld
import Derived.Test.YtielhbhiallcpaaKnown
import Derived.Test.YtielhbhiallcpaaAllw
import Derived.Test.YtielhbhiallcpaaSame
namespace Go.Proofs.Ytielhbhiallcpaa
open Go Go.RowKit Go.Fol
attribute [local go_sem] Oper.semAt_some
attribute [local go_sem ↓] run_min2 run_max2
set_option linter.unusedVariables false
set_option linter.unusedSimpArgs false

theorem join_step {α : Type} (l m : List α) (i k : Nat) (hi : i ≤ l.length) (hk : k < m.length) (x : α) (hx : m[k]? = some x) :
    (l.take i ++ m.take k ++ l.drop i).take (i + k) ++ [x] ++ (l.take i ++ m.take k ++ l.drop i).drop (i + k) = l.take i ++ m.take (k + 1) ++ l.drop i := by
  have hlen : (l.take i ++ m.take k).length = i + k := by simp; omega
  rw [List.take_left' hlen, List.drop_left' hlen, List.take_add_one, hx]
  simp

set_option maxHeartbeats 4000000 in
set_option maxRecDepth 100000 in
theorem vecJoins_walk (w : World) (v0 v1 v2 : Value) (a0 : Arg Try.prog w 31 v0) (a1 : Arg Try.prog w 5 v1) (a2 : Arg Try.prog w 31 v2) :
    Calls Try.prog 6 #[v0, v1, v2] w fun e w' => e = .returned (.bool true) ∧ Below w.heap.size w w' := by
  obtain ⟨l, hl, hlb, _⟩ := arg_ints Try.underlying31 Try.underlying3 (by kernel_rfl) (by kernel_rfl) a0
  obtain ⟨at', rfl, hat⟩ := arg_int Try.underlying5 a1
  obtain ⟨m, hm, hmb, _⟩ := arg_ints Try.underlying31 Try.underlying3 (by kernel_rfl) (by kernel_rfl) a2
  have hat : 0 ≤ at' ∧ at' ≤ 255 := by simpa [Lit.wf, IntKind.min, IntKind.max, IntKind.signed, IntKind.bits] using hat
  obtain ⟨n, hn⟩ : ∃ n, n = l.length := ⟨_, rfl⟩
  obtain ⟨r, hr⟩ : ∃ r, r = m.length := ⟨_, rfl⟩
  rw [← hn] at hl hlb
  rw [← hr] at hm hmb
  obtain ⟨la, lc, rfl⟩ := hl.form
  obtain ⟨ma, mc, rfl⟩ := hm.form
  have hl63 := hl.n63
  have hm63 := hm.n63
  have hwr : wrap64 at' = at' := by unfold wrap64; omega
  obtain ⟨i, hi, hin⟩ : ∃ i : Nat, at'.tmod ((n : Int) + 1) = i ∧ i ≤ n := by
    have h1 := Int.tmod_nonneg ((n : Int) + 1) hat.1
    have h2 := Int.tmod_lt_of_pos at' (show (0 : Int) < (n : Int) + 1 by omega)
    exact ⟨(at'.tmod ((n : Int) + 1)).toNat, by omega, by omega⟩
  have Hl := Lib.hid hl
  have Hm := Lib.hid hm
  have Hn := Lib.hid hn
  have Hr := Lib.hid hr
  clear a0 a1 a2 hl hm hn hr
  go_enter Try.func6, Try.ntmps6
  go_wp2_with fail
  refine (known_true w).mono ?_
  rintro e w0 ⟨rfl, hc0⟩
  have Hc0 := Lib.hid hc0
  have hbel : Below w.heap.size w w0 := hc0.below (Nat.le_refl _) (by simp)
  have Hbel := Lib.hid hbel
  clear hc0 hbel
  go_wp2_with fail
  all_goals first | (go_ret; exact ⟨rfl, Hbel.out⟩) | skip
  have hl0 := Hl.out.keep Hc0.out (fun _ _ => by simp)
  have hm0 := Hm.out.keep Hc0.out (fun _ _ => by simp)
  have Hl0 := Lib.hid hl0
  have Hm0 := Lib.hid hm0
  clear hl0 hm0
  refine (new_int _ n (ints l) _ Hl0.out (ints_one _) (by omega)).mono ?_
  rintro e w1 ⟨pa, sa, rfl, hv, hc, hnew⟩
  have Oa := Lib.hid (Own.of_new Hc0.out hv hc hnew)
  have Hc1 := Lib.hid hc
  clear hv hc hnew
  go_wp2_with fail
  refine (new_int _ n (ints l) _ (Hl0.out.keep Hc1.out (fun _ _ => by simp)) (ints_one _) (by omega)).mono ?_
  rintro e w2 ⟨pb, sb, rfl, hv, hc, hnew⟩
  have Ob := Lib.hid (Own.of_new Oa.out.chg hv hc hnew)
  have hdis : ∀ b ∈ vfoot pa sa, b ∉ vfoot pb sb := fun b hb hq => Nat.lt_irrefl _ (Nat.lt_of_lt_of_le (Oa.out.vec.foot_lt b hb) (hnew b hq))
  have Oa2 := Lib.hid (Oa.out.quiet hc)
  have Hdis := Lib.hid hdis
  clear hv hc hnew hdis Oa
  go_wp2_with fail
  refine (insert_in_int pa i _ sa n r (ints l) (ints m) w2 Oa2.out.vec (Oa2.out.src Hm.out) (Oa2.out.off_src Hm.out (by decide)) (ints_one _) (ints_one _) (by omega) (by omega) (by omega)).mono ?_
  rintro e w3 ⟨sa3, rfl, hv3, hm3⟩
  rw [show (ints l).take ((i : Int).toNat * 1) ++ ints m ++ (ints l).drop ((i : Int).toNat * 1) = ints (l.take i ++ m ++ l.drop i) by simp [ints_append, ints_take, ints_drop]] at hv3
  obtain ⟨hob, hdis⟩ := Oa2.out.other Ob.out hm3 Hdis.out
  have Oa3 := Lib.hid (Oa2.out.moved hv3 hm3)
  have Ob3 := Lib.hid hob
  have Hdis3 := Lib.hid hdis
  clear hv3 hm3 hob hdis Oa2 Ob Hdis
  go_wp2_with fail
  go_loopw [10] (fun x wr => ∃ (k : Nat) (sa' sb' : Value), k ≤ r ∧ x = .int .i64 k ∧ Fol.Own w wr 58 3 1 pa sa' (n + r) (ints (l.take i ++ m ++ l.drop i)) ∧ Fol.Own w wr 58 3 1 pb sb' (n + k) (ints (l.take i ++ m.take k ++ l.drop i)) ∧ ∀ b ∈ vfoot pa sa', b ∉ vfoot pb sb') (fun x _ => r - (intOf x).toNat)
  case atStart => exact ⟨0, _, _, Nat.zero_le _, rfl, Oa3.out, by simpa using Ob3.out, Hdis3.out⟩
  case round =>
    obtain ⟨k, sa', sb', hk, rfl, ha, hb, hd⟩ := hrel
    have Ha := Lib.hid ha
    have Hb := Lib.hid hb
    have Hd := Lib.hid hd
    clear ha hb hd
    by_cases hlt : k < r
    · have hms := Ha.out.src Hm.out
      obtain ⟨ab, ao, ac', e1, _, _, e3⟩ := hms.cells (by omega) (by decide)
      cases e1
      have hx := ints_get m (k := k) (by have := Hr.out; omega)
      have cx := e3 k _ hx
      have hx' : m[k]? = some (m[k]?.getD 0) := by
        rw [List.getElem?_eq_getElem (show k < m.length by have := Hr.out; omega)]; rfl
      have Hx := Lib.hid hx'
      clear e3 hms hx hx'
      generalize m[k]?.getD 0 = x at *
      go_wp2_with fail
      refine (insert_in_int pb ((i : Int) + k) _ sb' (n + k) 1 _ (ints [x]) _ (Hb.out.vec.alloc _) (srcv_new wr (ints [x]) 3 1 1 rfl (by decide)) (fun _ b hb => by cases hb; exact Hb.out.vec.off_new) (ints_one _) (ints_one _) (by omega) (by omega) (by omega)).mono ?_
      rintro e w4 ⟨sb4, rfl, hv4, hm4⟩
      have ej : (ints (l.take i ++ m.take k ++ l.drop i)).take (((i : Int) + k).toNat * 1) ++ ints [x] ++ (ints (l.take i ++ m.take k ++ l.drop i)).drop (((i : Int) + k).toNat * 1) = ints (l.take i ++ m.take (k + 1) ++ l.drop i) := by
        rw [show ((i : Int) + k).toNat * 1 = i + k by omega, ← ints_take, ← ints_drop, ← ints_append, ← ints_append, join_step l m i k (by have := Hn.out; omega) (by have := Hr.out; omega) x Hx.out]
      rw [ej] at hv4
      obtain ⟨hoa, hdis⟩ := (Hb.out.alloc _).other (Ha.out.alloc _) hm4 (fun b hb h => Hd.out b h hb)
      have hob := (Hb.out.alloc _).moved hv4 hm4
      have Hoa := Lib.hid hoa
      have Hob := Lib.hid hob
      have Hdis := Lib.hid hdis
      clear hv4 hm4 hoa hob hdis
      go_wp2_with fail
      go_roundw
      case rel => exact ⟨k + 1, _, _, by omega, by go_num, Hoa.out, Hob.out, fun b hb h => Hdis.out b h hb⟩
      case measure => simp [intOf]; omega
    · obtain rfl : k = r := by omega
      have hb' : Fol.Own w wr 58 3 1 pb sb' (n + k) (ints (l.take i ++ m ++ l.drop i)) := by
        have := Hb.out
        rwa [List.take_of_length_le (show m.length ≤ k by have := Hr.out; omega)] at this
      have Hb' := Lib.hid hb'
      clear hb' Hb
      go_wp2_with fail
      obtain ⟨i0, hi0, hz0, hz1, hz2⟩ := info_parts info_int
      have hlw := (Ha.out.src Hl.out).keep ((Chg.refl [] wr).drew) (fun _ _ => by simp)
      have hmw := (Ha.out.src Hm.out).keep ((Chg.refl [] wr).drew) (fun _ _ => by simp)
      have hin' : i ≤ lc := by have := Hl.out; rcases this with ⟨h, h2, _⟩ | ⟨a, c, h, h2, _⟩ <;> cases h <;> omega
      obtain ⟨la2, hla2⟩ : ∃ la2, (if lc = i then la else Option.map (fun x => x.add i) la) = la2 := ⟨_, rfl⟩
      have hs1 : SrcV wr.drew 1 (.slice la i lc) i (ints (l.take i)) := by
        have := hlw.sliced (i := 0) (j := i) (by omega) (by omega) (by decide)
        have e : sliced la 0 i lc 1 = .slice la i lc := by
          unfold sliced
          cases la <;> simp [Addr.add]
        rw [e] at this
        simpa [ints_take] using this
      have hs2 : SrcV wr.drew 1 (.slice la2 (n - i) (lc - i)) (n - i) (ints (l.drop i)) := by
        have := hlw.sliced (i := i) (j := n) (by omega) (by omega) (by decide)
        rw [List.take_of_length_le (by rw [List.length_drop, ints_len]; have := Hn.out; omega)] at this
        have e : sliced la i n lc 1 = .slice la2 (n - i) (lc - i) := by
          unfold sliced
          rw [← hla2, Nat.mul_one]
        rw [e] at this
        simpa [ints_drop] using this
      obtain ⟨sv1, w1, hr1, ho1, hc1, hn1⟩ : ∃ v' w', (∀ ty, (Builtin.append_ #[31, 31] ty #[.slice none 0 0, .slice la i lc]).run Try.prog wr.drew = .ok v' w') ∧ w'.ownsRow 0 3 1 v' i (ints (l.take i)) ∧ Chg [] wr.drew w' ∧ (∀ b, v'.ownBlock = some b → wr.heap.size ≤ b) := by
        obtain ⟨v', w', h1, h2, h3, h4⟩ := run_append_src (P := Try.prog) wr.drew 31 31 3 i0 _ 1 8 Try.underlying31 hi0 hz0 hz1 hz2 rfl (by decide) (.slice none 0 0) 0 [] (World.ownsRow_nil _ _ _ _) _ i _ hs1 (ints_one _) (by unfold maxLen; omega) (by omega)
        exact ⟨v', w', fun _ => h1, by simpa using h2, h3, fun b hb => (h4 b hb).resolve_left (fun e => by cases e)⟩
      obtain ⟨sv2, w2, hr2, ho2, hc2, hn2⟩ : ∃ v' w', (∀ ty, (Builtin.append_ #[31, 31] ty #[sv1, .slice ma k mc]).run Try.prog w1 = .ok v' w') ∧ w'.ownsRow 0 3 1 v' (i + k) (ints (l.take i ++ m)) ∧ Chg [] wr.drew w' ∧ (∀ b, v'.ownBlock = some b → wr.heap.size ≤ b) := by
        obtain ⟨v', w', h1, h2, h3, h4⟩ := run_append_src (P := Try.prog) w1 31 31 3 i0 _ 1 8 Try.underlying31 hi0 hz0 hz1 hz2 rfl (by decide) sv1 i _ ho1 _ k _ (hmw.keep hc1 (fun _ _ => by simp)) (ints_one _) (by unfold maxLen; omega) (by omega)
        exact ⟨v', w', fun _ => h1, by rw [ints_append]; exact h2, hc1.trans h3 (fun b hb hl => by simp at hb; exact absurd hl (Nat.not_lt.2 (hn1 b hb))), fun b hb => (h4 b hb).elim (hn1 b) (fun h => Nat.le_trans hc1.size h)⟩
      obtain ⟨sv3, w3', hr3, ho3, hc3, hn3⟩ : ∃ v' w', (∀ ty, (Builtin.append_ #[31, 31] ty #[sv2, .slice la2 (n - i) (lc - i)]).run Try.prog w2 = .ok v' w') ∧ w'.ownsRow 0 3 1 v' (n + k) (ints (l.take i ++ m ++ l.drop i)) ∧ Chg [] wr.drew w' ∧ (∀ b, v'.ownBlock = some b → wr.heap.size ≤ b) := by
        obtain ⟨v', w', h1, h2, h3, h4⟩ := run_append_src (P := Try.prog) w2 31 31 3 i0 _ 1 8 Try.underlying31 hi0 hz0 hz1 hz2 rfl (by decide) sv2 _ _ ho2 _ (n - i) _ (hs2.keep hc2 (fun _ _ => by simp)) (ints_one _) (by unfold maxLen; omega) (by omega)
        refine ⟨v', w', fun _ => h1, ?_, hc2.trans h3 (fun b hb hl => by simp at hb; exact absurd hl (Nat.not_lt.2 (hn2 b hb))), fun b hb => (h4 b hb).elim (hn2 b) (fun h => Nat.le_trans hc2.size h)⟩
        rw [ints_append (l.take i ++ m), show n + k = i + k + (n - i) by omega]
        exact h2
      have hmixed : Try.prog.follows .mixedOrders = true := by kernel_rfl
      go_region_law (first | refine step_append_known rfl _ _ 31 31 rfl _ _ (by simp [Act.eval, Act.put]) (by simp [Act.eval, Act.put]) (hr1 31) ?_ | refine step_append_known rfl _ _ 31 31 rfl _ _ (by simp [Act.eval, Act.put]) (by simp [Act.eval, Act.put]) (hr2 31) ?_ | refine step_append_known rfl _ _ 31 31 rfl _ _ (by simp [Act.eval, Act.put]) (by simp [Act.eval, Act.put]) (hr3 31) ?_)
      have hq : Chg [] wr w3' := ((Chg.refl [] wr).drew).nil_trans hc3
      have hL : (l.take i ++ m ++ l.drop i).length = n + k := by simp; have := Hn.out; have := Hr.out; omega
      have Ha5 := Lib.hid (Ha.out.quiet hq)
      have Hb5 := Lib.hid (Hb'.out.quiet hq)
      have Hw5 := Lib.hid (SrcV.of_row ho3)
      have HL := Lib.hid hL
      clear Ha Hb' ho3 hc3 hn3 ho2 hc2 hn2 ho1 hc1 hn1 hr1 hr2 hr3 hs1 hs2 hq hlw hmw hi0 hz0 hz1 hz2 hL hla2 Hd
      go_wp2_with fail
      refine (all_true pa sa' sv3 (l.take i ++ m ++ l.drop i) w3' (by rw [HL.out]; exact Ha5.out.vec) (by rw [HL.out]; exact Hw5.out) (by rw [HL.out]; omega)).mono ?_
      rintro e w6 ⟨rfl, hc6⟩
      have Ha6 := Lib.hid (Ha5.out.quiet hc6)
      have Hb6 := Lib.hid (Hb5.out.quiet hc6)
      have Hw6 := Lib.hid (Hw5.out.keep hc6 (fun _ _ => by simp))
      clear hc6 Ha5 Hb5 Hw5
      go_wp2_with fail
      refine (all_true pb sb' sv3 (l.take i ++ m ++ l.drop i) w6 (by rw [HL.out]; exact Hb6.out.vec) (by rw [HL.out]; exact Hw6.out) (by rw [HL.out]; omega)).mono ?_
      rintro e w7 ⟨rfl, hc7⟩
      have Ha7 := Lib.hid (Ha6.out.quiet hc7)
      clear hc7 Ha6 Hb6 Hw6
      have hdel : Calls Try.prog 15 #[.pointer (some ⟨pa, 0, none⟩), .int .i64 i, .int .i64 k] w7 fun e w' => ∃ d sa'', e = .returned d ∧ Fol.Own w w' 58 3 1 pa sa'' n (ints l) ∧ SrcV w' 1 d m.length (ints m) := by
        by_cases hk0 : k = 0
        · have hm0 : m = [] := List.eq_nil_of_length_eq_zero (by have := Hr.out; omega)
          refine (delete_out_int pa i k sa' (n + k) _ w7 Ha7.out.vec (.inr (by omega))).mono ?_
          rintro e w8 ⟨rfl, rfl⟩
          refine ⟨_, sa', rfl, ?_, ?_⟩
          · have := Ha7.out
            rw [hm0, List.append_nil, List.take_append_drop, hk0] at this
            exact this
          · rw [hm0]
            exact .inl ⟨rfl, rfl, rfl⟩
        · refine (delete_in_int pa i k sa' (n + k) k _ w7 Ha7.out.vec (ints_one _) (by omega) (by omega) (by omega) (by omega) (by omega) (by omega)).mono ?_
          rintro e w8 ⟨sa'', d, rfl, hv8, hd8, hm8, _⟩
          have hti : (l.take i).length = i := by simp; have := Hn.out; omega
          have htm : (l.take i ++ m).length = i + k := by simp; have := Hn.out; have := Hr.out; omega
          have e1 : (ints (l.take i ++ m ++ l.drop i)).take ((i : Int).toNat * 1) ++ (ints (l.take i ++ m ++ l.drop i)).drop (((i : Int).toNat + k) * 1) = ints l := by
            rw [Int.toNat_natCast, Nat.mul_one, Nat.mul_one, ← ints_take, ← ints_drop, ← ints_append, List.drop_left' htm, List.append_assoc, List.take_left' hti, List.take_append_drop]
          have e2 : ((ints (l.take i ++ m ++ l.drop i)).drop ((i : Int).toNat * 1)).take (k * 1) = ints m := by
            rw [Int.toNat_natCast, Nat.mul_one, Nat.mul_one, ← ints_drop, ← ints_take, List.append_assoc, List.drop_left' hti, List.take_left' Hr.out.symm]
          rw [e1, Nat.add_sub_cancel] at hv8
          rw [e2] at hd8
          exact ⟨d, sa'', rfl, Ha7.out.moved hv8 hm8, Hr.out ▸ SrcV.of_row hd8⟩
      go_wp2_with fail
      refine hdel.mono ?_
      rintro e w8 ⟨d, sa'', rfl, ha8, hd8⟩
      have Ha8 := Lib.hid ha8
      have Hd8 := Lib.hid hd8
      clear ha8 hd8 hdel Ha7
      go_wp2_with fail
      refine (same_true d (.slice ma k mc) m w8 Hd8.out (Hr.out ▸ Ha8.out.src Hm.out)).mono ?_
      rintro e w9 ⟨rfl, hc9⟩
      have Ha9 := Lib.hid (Ha8.out.quiet hc9)
      clear hc9 Ha8 Hd8
      go_wp2_with fail
      refine (all_true pa sa'' (.slice la n lc) l w9 (Hn.out ▸ Ha9.out.vec) (Hn.out ▸ Ha9.out.src Hl.out) (by have := Hn.out; omega)).mono ?_
      rintro e w10 ⟨rfl, hc10⟩
      have Hc10 := Lib.hid (Ha9.out.chg.nil_trans hc10)
      clear hc10
      go_wp2_with fail
      go_ret
      exact ⟨rfl, Hc10.out.below (Nat.le_refl _) (by simp)⟩
end Go.Proofs.Ytielhbhiallcpaa
