/- The vectors of int (one cell an element): All and its iterator. -/
import Derived.Test.YtbddehfcamgfhaaVecInt
import Derived.Test.YtbddehfcamgfhaaRange
import Derived.OwnWalkIn
import Derived.TacticsInMore
import Derived.LoopNIn
import Derived.LoopIn
namespace Go.Proofs.Ytbddehfcamgfhaa
open Go Go.RowKit Go.Fol
attribute [local go_sem] Oper.semAt_some
set_option linter.unusedVariables false
set_option linter.unusedSimpArgs false

theorem ranged_all_int (p : Nat) (sv : Value) (n : Nat) (xs : List Value) (w : World) (h : VecAt w 56 3 1 p sv n xs) (h1x : ∀ u ∈ xs, u.oneCell' = true) (hb : n * 8 ≤ 140737488355328) :
    Calls Try.prog 28 #[.pointer (some ⟨p, 0, none⟩)] w (Ranged w 35 27 3 1 n xs) := by
  have hc := h.cell
  have hcl := clone_int sv n xs w (SrcV.of_row h.row) h1x hb
  obtain ⟨a, c, rfl⟩ := row_slice h.row
  clear h hb
  go_enter Try.func28, Try.ntmps28
  go_wp2_with (first | (go_at_call 26; refine hcl.mono ?_; rintro e w1 ⟨d, rfl, hd, hchg, hnew⟩; obtain ⟨a', c', rfl⟩ := row_slice hd) | go_in)
  go_ret
  refine ⟨w1.heap.size, _, rfl, ⟨heap_alloc_new _ _, row_keep hd ((Chg.refl [] w1).alloc _) (fun _ _ h => by cases h), fun e => Nat.lt_irrefl _ (row_lt hd e)⟩, hchg.alloc _, ?_⟩
  intro b hb
  simp only [vfoot, List.mem_cons, Option.mem_toList] at hb
  rcases hb with rfl | hb
  · exact hchg.size
  · exact hnew b hb

set_option maxRecDepth 100000 in
set_option maxHeartbeats 2000000 in
theorem seq_all_int (b : Nat) (sv : Value) (n : Nat) (xs : List Value) (w : World) (h : VecAt w 27 3 1 b sv n xs) :
    SeqList Try.prog 35 #[.pointer (some ⟨b, 0, none⟩)] (fun k => #[.int .i64 k, xs[k]?.getD undef]) (vfoot b sv) n w := by
  intro l J Jx W hk0 hsz hJ hJx hY h0
  have hW : VecAt W 27 3 1 b sv n xs := keepB_vec h hk0 (fun c hc => hc)
  have hbox := hW.cell
  have hn63 := row_n63 hW.row
  obtain ⟨a, c, rfl⟩ := row_slice hW.row
  refine callsIn_of_wp Try.func35 rfl trivial ?_ rfl
  simp only [Try.ntmps35, List.size_toArray, List.length_cons, List.length_nil, Nat.reduceAdd, Nat.reduceSub, Array.replicate_succ, Array.replicate_zero, List.push_toArray, List.append_toArray, List.nil_append, List.cons_append]
  have HW := Lib.hid hW.row
  have HJ := Lib.hid hJ
  have HJx := Lib.hid hJx
  have HY := Lib.hid hY
  clear h hk0 hW hJ hJx hY
  gi_wp2
  gi_loopw [7] (fun i wr => ∃ k : Nat, k ≤ n ∧ i = .int .i64 k ∧ J k wr ∧ KeepB (vfoot b (.slice a n c)) W wr) (fun i _ => n - (intOf i).toNat)
  case atStart => exact ⟨0, Nat.zero_le _, rfl, h0, fun _ _ => rfl⟩
  case round =>
    obtain ⟨k, hk, rfl, hJs, hkp⟩ := hrel
    by_cases hlt : k < n
    · have hrow := keepB_row HW.out hkp (fun b' hb' => by simp [vfoot, hb'])
      obtain ⟨g, rfl, hnc, hcx⟩ := row_cell1 hrow hlt
      obtain ⟨fn, tmps, assign, body, hy, hR⟩ := HY.out k wr hlt hJs
      have Hkp := Lib.hid hkp
      clear hkp hrow
      generalize xs[k]?.getD undef = x at *
      gi_wp2
      refine hR.mono ?_
      rintro e W3 (⟨rfl, hJ3, hk3⟩ | ⟨rfl, hJx3⟩)
      · gi_wp2
        go_roundw
        case rel => exact ⟨k + 1, by omega, by simp, hJ3, keepB_t Hkp.out hk3⟩
        case measure => simp [intOf]; omega
      · gi_wp2
        refine bodyPost_ret (results_none rfl _ _ _) rfl ?_
        exact ⟨⟨_, rfl⟩, .inr hJx3⟩
    · obtain rfl : k = n := by omega
      gi_wp2
      go_end0
      exact ⟨⟨_, rfl⟩, .inl hJs⟩
end Go.Proofs.Ytbddehfcamgfhaa
