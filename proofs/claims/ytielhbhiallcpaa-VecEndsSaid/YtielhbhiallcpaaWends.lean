/- The law VecEnds on values that read. -/
import Derived.Test.YtielhbhiallcpaaHeld
import Derived.Test.YtielhbhiallcpaaKnown
import Derived.Test.YtielhbhiallcpaaAllw
namespace Go.Proofs.Ytielhbhiallcpaa
open Go Go.RowKit Go.Fol
attribute [local go_sem] Oper.semAt_some
attribute [local go_sem ↓] run_min2 run_max2
set_option linter.unusedVariables false
set_option linter.unusedSimpArgs false

set_option maxHeartbeats 4000000 in
set_option maxRecDepth 100000 in
theorem vecEnds_walk (w : World) (v0 v1 : Value) (a0 : Arg Try.prog w 31 v0) (a1 : Arg Try.prog w 3 v1) :
    Calls Try.prog 7 #[v0, v1] w fun e w' => e = .returned (.bool true) ∧ Below w.heap.size w w' := by
  obtain ⟨l, hl, hlb, _⟩ := arg_ints Try.underlying31 Try.underlying3 (by kernel_rfl) (by kernel_rfl) a0
  obtain ⟨far, rfl, hat⟩ := arg_int Try.underlying3 a1
  clear hat
  obtain ⟨n, hn⟩ : ∃ n, n = l.length := ⟨_, rfl⟩
  rw [← hn] at hl hlb
  obtain ⟨la, lc, rfl⟩ := hl.form
  have hl63 := hl.n63
  have Hl := Lib.hid hl
  have Hn := Lib.hid hn
  clear a0 a1 hl hn
  go_enter Try.func7, Try.ntmps7
  go_wp2_with fail
  refine (known_true w).mono ?_
  rintro e w0 ⟨rfl, hc0⟩
  have Hc0 := Lib.hid hc0
  have hbel : Below w.heap.size w w0 := hc0.below (Nat.le_refl _) (by simp)
  have Hbel := Lib.hid hbel
  clear hc0 hbel
  go_wp2_with fail
  all_goals first | (go_ret; exact ⟨rfl, Hbel.out⟩) | skip
  refine (new_int _ n (ints l) _ (Hl.out.keep Hc0.out (fun _ _ => by simp)) (ints_one _) (by omega)).mono ?_
  rintro e w1 ⟨pa, sa, rfl, hv, hc, hnew⟩
  have O1 := Lib.hid (Own.of_new Hc0.out hv hc hnew)
  clear hv hc hnew
  go_wp2_with fail
  obtain ⟨W1, hW1⟩ : ∃ W1, w1.alloc (.cells #[.int .i64 (-1), .int .i64 n, .int .i64 ((n : Int) + 1), .int .i64 far] 3) = W1 := ⟨_, rfl⟩
  obtain ⟨B, hB⟩ : ∃ B, B = w1.heap.size := ⟨_, rfl⟩
  have hb : W1.heap[B]? = some (.cells #[.int .i64 (-1), .int .i64 n, .int .i64 ((n : Int) + 1), .int .i64 far] 3 (0, 0)) := by rw [← hW1, hB]; exact heap_alloc_new _ _
  have ho1 : Fol.Own w W1 58 3 1 pa sa n (ints l) := by rw [← hW1]; exact O1.out.alloc _
  rw [hW1, ← hB]
  have Hb := Lib.hid hb
  have Ho1 := Lib.hid ho1
  clear hb ho1 hW1 hB
  go_loopw [25] (fun x wr => ∃ (k : Nat), k ≤ 4 ∧ x = .int .i64 k ∧ wr.heap[B]? = some (.cells #[.int .i64 (-1), .int .i64 n, .int .i64 ((n : Int) + 1), .int .i64 far] 3 (0, 0)) ∧ Fol.Own w wr 58 3 1 pa sa n (ints l)) (fun x _ => 4 - (intOf x).toNat)
  case atStart => exact ⟨0, Nat.zero_le _, rfl, Hb.out, Ho1.out⟩
  case round =>
    obtain ⟨k, hk, rfl, hb, ho⟩ := hrel
    have HB := Lib.hid hb
    have HO := Lib.hid ho
    by_cases hlt : k < 4
    · obtain ⟨y, hy⟩ : ∃ y, (#[Value.int .i64 (-1), .int .i64 n, .int .i64 ((n : Int) + 1), .int .i64 far] : Array Value)[k]? = some (.int .i64 y) := by
        match k, hlt with
        | 0, _ => exact ⟨_, rfl⟩
        | 1, _ => exact ⟨_, rfl⟩
        | 2, _ => exact ⟨_, rfl⟩
        | 3, _ => exact ⟨_, rfl⟩
      have cy := cell_of_heap hb hy
      clear hb ho hy
      by_cases hin : 0 ≤ y ∧ y < n
      · have h1 := hin.1
        have h2 := hin.2
        go_wp2_with fail
        go_roundw
        case rel => exact ⟨k + 1, by omega, by go_num, HB.out, HO.out⟩
        case measure => simp [intOf]; omega
      · rcases (show y < 0 ∨ (0 ≤ y ∧ y = n) ∨ (0 ≤ y ∧ n < y) by omega) with h1 | ⟨h1, h2⟩ | ⟨h1, h2⟩
        · have h3 : ¬ (0 ≤ y) := by omega
          have h4 : ¬ (y = (n : Int)) := by omega
          clear hin
          go_wp2_with fail
          refine (at_out_int pa y sa n (ints l) wr HO.out.vec (by omega)).mono ?_
          rintro e w2 ⟨rfl, rfl⟩
          go_wp2_with fail
          refine (set_out_int pa y (.int .i64 5) sa n (ints l) wr HO.out.vec (by omega)).mono ?_
          rintro e w2 ⟨rfl, rfl⟩
          go_wp2_with fail
          refine (delete_out_int pa y 3 sa n (ints l) wr HO.out.vec (.inl (by omega))).mono ?_
          rintro e w2 ⟨rfl, rfl⟩
          go_wp2_with fail
          refine (insert_out_int pa y _ sa n 1 (ints l) (ints [7]) _ (HO.out.vec.alloc _) (srcv_new wr (ints [7]) 3 1 1 rfl (by decide)) (by omega)).mono ?_
          rintro e w2 ⟨rfl, rfl⟩
          have hb2 := ((Chg.refl [] wr).alloc (.cells #[.int .i64 7] 3)).heap HB.out (by simp)
          have ho2 := HO.out.alloc (.cells #[.int .i64 7] 3)
          have HB2 := Lib.hid hb2
          have HO2 := Lib.hid ho2
          clear hb2 ho2
          go_wp2_with fail
          go_roundw
          case rel => exact ⟨k + 1, by omega, by go_num, HB2.out, HO2.out⟩
          case measure => simp [intOf]; omega
        · subst h2
          have h3 : ¬ ((n : Int) < n) := by omega
          clear hin
          go_wp2_with fail
          refine (at_out_int pa n sa n (ints l) wr HO.out.vec (by omega)).mono ?_
          rintro e w2 ⟨rfl, rfl⟩
          go_wp2_with fail
          refine (set_out_int pa n (.int .i64 5) sa n (ints l) wr HO.out.vec (by omega)).mono ?_
          rintro e w2 ⟨rfl, rfl⟩
          go_wp2_with fail
          refine (delete_out_int pa n 3 sa n (ints l) wr HO.out.vec (.inl (by omega))).mono ?_
          rintro e w2 ⟨rfl, rfl⟩
          go_wp2_with fail
          go_roundw
          case rel => exact ⟨k + 1, by omega, by go_num, HB.out, HO.out⟩
          case measure => simp [intOf]; omega
        · have h3 : ¬ (y < (n : Int)) := by omega
          have h4 : ¬ (y = (n : Int)) := by omega
          clear hin
          go_wp2_with fail
          refine (at_out_int pa y sa n (ints l) wr HO.out.vec (by omega)).mono ?_
          rintro e w2 ⟨rfl, rfl⟩
          go_wp2_with fail
          refine (set_out_int pa y (.int .i64 5) sa n (ints l) wr HO.out.vec (by omega)).mono ?_
          rintro e w2 ⟨rfl, rfl⟩
          go_wp2_with fail
          refine (delete_out_int pa y 3 sa n (ints l) wr HO.out.vec (.inl (by omega))).mono ?_
          rintro e w2 ⟨rfl, rfl⟩
          go_wp2_with fail
          refine (insert_out_int pa y _ sa n 1 (ints l) (ints [7]) _ (HO.out.vec.alloc _) (srcv_new wr (ints [7]) 3 1 1 rfl (by decide)) (by omega)).mono ?_
          rintro e w2 ⟨rfl, rfl⟩
          have hb2 := ((Chg.refl [] wr).alloc (.cells #[.int .i64 7] 3)).heap HB.out (by simp)
          have ho2 := HO.out.alloc (.cells #[.int .i64 7] 3)
          have HB2 := Lib.hid hb2
          have HO2 := Lib.hid ho2
          clear hb2 ho2
          go_wp2_with fail
          go_roundw
          case rel => exact ⟨k + 1, by omega, by go_num, HB2.out, HO2.out⟩
          case measure => simp [intOf]; omega
    · clear hb ho
      go_wp2_with fail
      refine (all_true pa sa (.slice la n lc) l wr (Hn.out ▸ HO.out.vec) (Hn.out ▸ HO.out.src Hl.out) (by have := Hn.out; omega)).mono ?_
      rintro e w5 ⟨rfl, hc5⟩
      have O5 := Lib.hid (HO.out.quiet hc5)
      clear hc5
      go_wp2_with fail
      refine (insert_in_int pa n _ sa n 1 (ints l) (ints [9]) _ (O5.out.vec.alloc _) (srcv_new w5 (ints [9]) 3 1 1 rfl (by decide)) (fun _ b hb => by cases hb; exact O5.out.vec.off_new) (ints_one _) (ints_one _) (by omega) (by omega) (by omega)).mono ?_
      rintro e w6 ⟨sa6, rfl, hv6, hm6⟩
      have O6 := Lib.hid ((O5.out.alloc _).moved hv6 hm6)
      clear hv6 hm6
      go_wp2_with fail
      refine (len_int pa sa6 _ _ _ O6.out.vec).mono ?_
      rintro e w7 ⟨rfl, rfl⟩
      go_wp2_with fail
      go_ret
      exact ⟨rfl, O6.out.chg.below (Nat.le_refl _) (by simp)⟩
end Go.Proofs.Ytielhbhiallcpaa
