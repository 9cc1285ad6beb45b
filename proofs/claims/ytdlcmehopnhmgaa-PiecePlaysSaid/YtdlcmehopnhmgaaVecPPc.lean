/- The vectors of foolscap/piece.piece: At, Set, All, Back in words of what stands side by side. -/
import Derived.Test.YtdlcmehopnhmgaaVecOPc
import Derived.RegionTactic
import Derived.OwnWalkIn
import Derived.TacticsInMore
import Derived.LoopNIn
import Derived.LoopIn
namespace Go.Proofs.Ytdlcmehopnhmgaa
open Go Go.RowKit Go.Fol
attribute [local go_sem ↓] run_min2 run_max2
attribute [local go_sem] Oper.semAt_some
set_option linter.unusedVariables false
set_option linter.unusedSimpArgs false
section
variable {w0 w : World} {R : List Asrt}
/-- the i-th of them. -/
def at_pc (xs : List Value) (i : Nat) (c0 : Bool) (c1 : Int) (c2 : Int) : Prop := xs[i * 3]? = some (.bool c0) ∧ xs[i * 3 + 1]? = some (.int .i64 c1) ∧ xs[i * 3 + 2]? = some (.int .i64 c2)
/-- the cells of all are read as such. -/
def are_pc (xs : List Value) (n : Nat) : Prop := ∀ i, i < n → ∃ c0 c1 c2, at_pc xs i c0 c1 c2
theorem o_at_pc {p n : Nat} {xs : List Value} (i : Nat) (c0 : Bool) (c1 : Int) (c2 : Int) (H : Owns w0 w (vec_pc p n xs :: R)) (hi : i < n) (hx : at_pc xs i c0 c1 c2) :
    Calls Try.prog 22 #[.pointer (some ⟨p, 0, none⟩), .int .i64 i] w (Ret (.tuple #[.agg #[.bool c0, .int .i64 c1, .int .i64 c2], .bool true]) w0 (vec_pc p n xs :: R)) := by
  obtain ⟨hx0, hx1, hx2⟩ := hx
  obtain ⟨sv, h, _⟩ := H.vec
  have hn : decide (0 ≤ (i : Int) ∧ (i : Int) < n) = true := by simp; omega
  have h2 := h.alloc (.cells #[.bool false, .int .i64 0, .int .i64 0] 51)
  have hhas := has_pc p i sv n xs _ h2
  rw [hn] at hhas
  have hc := h2.cell
  rcases row_form h.row with ⟨_, rfl, _⟩ | ⟨g, cap, cur, rfl, hg, hnc, hm, _⟩
  · omega
  have e0 := h2.row.cells (g := g) rfl _ _ hx0
  have e1 := h2.row.cells (g := g) rfl _ _ hx1
  have e2 := h2.row.cells (g := g) rfl _ _ hx2
  rw [Addr.add_lit, Nat.zero_add] at e0 e1 e2
  have H2 := Lib.hid H
  unfold maxLen at hm
  clear h h2 hg hn hx0 hx1 hx2 H
  go_enter Try.func22, Try.ntmps22
  go_wp2_with (go_at_call 32; refine hhas.mono ?_; rintro e w' ⟨rfl, rfl⟩)
  exact bodyPost_ret (v := .tuple #[.agg #[.bool c0, .int .i64 c1, .int .i64 c2], .bool true]) (by simp [results, Try.results22, go_sem]) rfl ⟨rfl, H2.out.alloc0 _⟩
theorem o_at_out_pc {p n : Nat} {xs : List Value} (i : Int) (H : Owns w0 w (vec_pc p n xs :: R)) (h0 : ¬ (0 ≤ i ∧ i < n)) :
    Calls Try.prog 22 #[.pointer (some ⟨p, 0, none⟩), .int .i64 i] w (Ret (.tuple #[.agg #[.bool false, .int .i64 0, .int .i64 0], .bool false]) w0 (vec_pc p n xs :: R)) := by
  obtain ⟨sv, h, _⟩ := H.vec
  have hn : decide (0 ≤ i ∧ i < n) = false := by simpa using h0
  have h2 := h.alloc (.cells #[.bool false, .int .i64 0, .int .i64 0] 51)
  have hhas := has_pc p i sv n xs _ h2
  rw [hn] at hhas
  have H2 := Lib.hid H
  clear h h2 hn h0 H
  go_enter Try.func22, Try.ntmps22
  go_wp2_with (go_at_call 32; refine hhas.mono ?_; rintro e w' ⟨rfl, rfl⟩)
  exact bodyPost_ret (v := .tuple #[.agg #[.bool false, .int .i64 0, .int .i64 0], .bool false]) (by simp [results, Try.results22, go_sem]) rfl ⟨rfl, (H2.out.alloc0 _).alloc0 _⟩
theorem o_set_pc {p n : Nat} {xs : List Value} (i : Nat) (c0 : Bool) (c1 : Int) (c2 : Int) (H : Owns w0 w (vec_pc p n xs :: R)) (hi : i < n) :
    Calls Try.prog 23 #[.pointer (some ⟨p, 0, none⟩), .int .i64 i, .agg #[.bool c0, .int .i64 c1, .int .i64 c2]] w (Ret (.bool true) w0 (vec_pc p n ((((xs).set (i * 3) (.bool c0)).set (i * 3 + 1) (.int .i64 c1)).set (i * 3 + 2) (.int .i64 c2)) :: R)) := by
  obtain ⟨sv, h, hu⟩ := H.vec
  have hn : decide (0 ≤ (i : Int) ∧ (i : Int) < n) = true := by simp; omega
  have h2 := h.alloc (.cells #[.bool c0, .int .i64 c1, .int .i64 c2] 51)
  have hhas := has_pc p i sv n xs _ h2
  rw [hn] at hhas
  rcases row_form h.row with ⟨_, rfl, _⟩ | ⟨g, cap, cur, rfl, hg, hnc, hm, hcs, htk, hxl⟩
  · omega
  have S0 := H.alloc0 (.cells #[.bool c0, .int .i64 c1, .int .i64 c2] 51)
  have hc := h2.cell
  have hi2 : (i + 1) * 3 ≤ n * 3 := Nat.mul_le_mul_right _ hi
  have hi4 : (i + 1) * 3 = i * 3 + 3 := by rw [Nat.add_mul, Nat.one_mul]
  obtain ⟨S1, v1, ⟨y0, cy0⟩, fz0⟩ := S0.vecSet h2 (q := i * 3) (by omega) (.bool c0)
  obtain ⟨S2, v2, ⟨y1, cy1⟩, fz1⟩ := S1.vecSet v1 (q := i * 3 + 1) (by omega) (.int .i64 c1)
  obtain ⟨S3, v3, ⟨y2, cy2⟩, fz2⟩ := S2.vecSet v2 (q := i * 3 + 2) (by omega) (.int .i64 c2)
  have Hend := Lib.hid S3
  unfold maxLen at hm
  have hmixed : Try.prog.follows .mixedOrders = true := by kernel_rfl
  clear h h2 hg hn hi2 hi4 hcs htk hxl H hu S0 S1 S2 S3 v1 v2 v3
  go_enter Try.func23, Try.ntmps23
  go_wp2_with (go_at_call 32; refine hhas.mono ?_; rintro e w' ⟨rfl, rfl⟩)
  go_region
  all_goals
    go_wp2
    go_ret
    exact ⟨rfl, Hend.out.drew⟩
theorem o_set_out_pc {p n : Nat} {xs : List Value} (i : Int) (c0 : Bool) (c1 : Int) (c2 : Int) (H : Owns w0 w (vec_pc p n xs :: R)) (h0 : ¬ (0 ≤ i ∧ i < n)) :
    Calls Try.prog 23 #[.pointer (some ⟨p, 0, none⟩), .int .i64 i, .agg #[.bool c0, .int .i64 c1, .int .i64 c2]] w (Ret (.bool false) w0 (vec_pc p n xs :: R)) := by
  obtain ⟨sv, h, hu⟩ := H.vec
  have hn : decide (0 ≤ i ∧ i < n) = false := by simpa using h0
  have h2 := h.alloc (.cells #[.bool c0, .int .i64 c1, .int .i64 c2] 51)
  have hhas := has_pc p i sv n xs _ h2
  rw [hn] at hhas
  have H2 := Lib.hid H
  clear h h2 hn h0 H
  go_enter Try.func23, Try.ntmps23
  go_wp2_with (go_at_call 32; refine hhas.mono ?_; rintro e w' ⟨rfl, rfl⟩)
  go_ret
  exact ⟨rfl, H2.out.alloc0 _⟩

theorem o_all_pc {p n : Nat} {xs : List Value} (H : Owns w0 w (vec_pc p n xs :: R)) (h1x : ∀ u ∈ xs, u.oneCell' = true) (hb : n * 24 ≤ 140737488355328) :
    Calls Try.prog 25 #[.pointer (some ⟨p, 0, none⟩)] w (RetX (fun b : Nat => .func (.func 37) #[] #[.pointer (some ⟨b, 0, none⟩)]) w0 (fun b => Asrt.vec 66 51 3 b n xs :: vec_pc p n xs :: R)) := by
  obtain ⟨sv, h, _⟩ := H.vec
  have hc := h.cell
  have hcl := clone_pc sv n xs w (SrcV.of_row h.row) h1x hb
  obtain ⟨a, c, rfl⟩ := row_slice h.row
  have HH := Lib.hid H
  clear h hb H
  go_enter Try.func25, Try.ntmps25
  go_wp2_with (first | (go_at_call 30; refine hcl.mono ?_; rintro e w1 ⟨d, rfl, hd, hchg, hnew⟩; obtain ⟨a', c', rfl⟩ := row_slice hd) | go_in)
  go_ret
  refine HH.out.ranged ⟨w1.heap.size, _, rfl, ⟨heap_alloc_new _ _, row_keep hd ((Chg.refl [] w1).alloc _) (fun _ _ h => by cases h), fun e => Nat.lt_irrefl _ (row_lt hd e)⟩, hchg.alloc _, ?_⟩
  intro b hb
  simp only [vfoot, List.mem_cons, Option.mem_toList] at hb
  rcases hb with rfl | hb
  · exact hchg.size
  · exact hnew b hb
set_option maxRecDepth 100000 in
set_option maxHeartbeats 2000000 in
theorem seq_all_pc (b : Nat) (sv : Value) (n : Nat) (xs : List Value) (w : World) (h : VecAt w 66 51 3 b sv n xs) (hat : are_pc xs n) :
    SeqList Try.prog 37 #[.pointer (some ⟨b, 0, none⟩)] (fun k => #[.int .i64 k, .agg #[xs[k * 3]?.getD undef, xs[k * 3 + 1]?.getD undef, xs[k * 3 + 2]?.getD undef]]) (vfoot b sv) n w := by
  intro l J Jx W hk0 hsz hJ hJx hY h0
  have hW : VecAt W 66 51 3 b sv n xs := keepB_vec h hk0 (fun c hc => hc)
  have hbox := hW.cell
  have hn63 := row_n63 hW.row
  obtain ⟨a, c, rfl⟩ := row_slice hW.row
  refine callsIn_of_wp Try.func37 rfl trivial ?_ rfl
  simp only [Try.ntmps37, List.size_toArray, List.length_cons, List.length_nil, Nat.reduceAdd, Nat.reduceSub, Array.replicate_succ, Array.replicate_zero, List.push_toArray, List.append_toArray, List.nil_append, List.cons_append]
  have HL := Lib.hid hW.foot_lt
  have HW := Lib.hid hW.row
  have HJ := Lib.hid hJ
  have HJx := Lib.hid hJx
  have HY := Lib.hid hY
  have Hat := Lib.hid hat
  clear h hk0 hW hJ hJx hY hat
  gi_wp2
  gi_loopw [7] (fun i wr => ∃ k : Nat, k ≤ n ∧ i = .int .i64 k ∧ J k wr ∧ KeepB (vfoot b (.slice a n c)) W wr) (fun i _ => n - (intOf i).toNat)
  case atStart => exact ⟨0, Nat.zero_le _, rfl, h0, fun _ _ => rfl⟩
  case round =>
    obtain ⟨k, hk, rfl, hJs, hkp⟩ := hrel
    by_cases hlt : k < n
    · have hrow := keepB_row HW.out hkp (fun b' hb' => by simp [vfoot, hb'])
      obtain ⟨c0, c1, c2, ⟨hx0, hx1, hx2⟩⟩ := Hat.out k hlt
      rcases row_form hrow with ⟨_, rfl, _⟩ | ⟨g, cap, cur, hsl, _, hnc, _⟩
      · omega
      cases hsl
      have e0 := hrow.cells (g := g) rfl _ _ hx0
      have e1 := hrow.cells (g := g) rfl _ _ hx1
      have e2 := hrow.cells (g := g) rfl _ _ hx2
      rw [Addr.add_lit, Nat.zero_add] at e0 e1 e2
      have g0 : xs[k * 3]?.getD undef = .bool c0 := by rw [hx0]; rfl
      have g1 : xs[k * 3 + 1]?.getD undef = .int .i64 c1 := by rw [hx1]; rfl
      have g2 : xs[k * 3 + 2]?.getD undef = .int .i64 c2 := by rw [hx2]; rfl
      have hJs' := HJ.out k _ _ hJs ((Chg.refl [] wr).alloc (.cells #[.bool c0, .int .i64 c1, .int .i64 c2] 51))
      obtain ⟨fn, tmps, assign, body, hy, hR⟩ := HY.out k _ hlt hJs'
      simp only [g0, g1, g2] at hy
      have Hkp := Lib.hid (show KeepB (vfoot b (.slice (some ⟨g, 0, none⟩) n c)) W (wr.alloc (.cells #[.bool c0, .int .i64 c1, .int .i64 c2] 51)) from keepB_t hkp (((Chg.refl [] wr).alloc _).keepB (fun q hq => ⟨keepB_lt hkp hq (HL.out q hq), by simp⟩)))
      clear hkp hrow hJs hJs' hx0 hx1 hx2 g0 g1 g2
      gi_wp2
      refine hR.mono ?_
      rintro e W3 (⟨rfl, hJ3, hk3⟩ | ⟨rfl, hJx3⟩)
      · gi_wp2
        go_roundw
        case rel => exact ⟨k + 1, by omega, by simp, hJ3, keepB_t Hkp.out hk3⟩
        case measure => simp [intOf]; omega
      · gi_wp2
        refine bodyPost_ret (results_none rfl _ _ _) rfl ?_
        exact ⟨⟨_, rfl⟩, .inr hJx3⟩
    · obtain rfl : k = n := by omega
      gi_wp2
      go_end0
      exact ⟨⟨_, rfl⟩, .inl hJs⟩
/-- what a range over All goes through. -/
theorem o_seq_all_pc {b n : Nat} {xs : List Value} (H : Owns w0 w (Asrt.vec 66 51 3 b n xs :: R)) (hat : are_pc xs n) : ∃ S, SeqList Try.prog 37 #[.pointer (some ⟨b, 0, none⟩)] (fun k => #[.int .i64 k, .agg #[xs[k * 3]?.getD undef, xs[k * 3 + 1]?.getD undef, xs[k * 3 + 2]?.getD undef]]) S n w ∧ Owns w0 w (Asrt.same w S :: R) := by
  obtain ⟨sv, hv, hu⟩ := H.vec
  exact ⟨_, seq_all_pc b sv n xs w hv hat, H.toSame hu⟩
end
end Go.Proofs.Ytdlcmehopnhmgaa
