/- The vectors of foolscap/api.Change: At, Set, All, Back in words of what stands side by side. -/
import Derived.Test.YtchgkdhhfbppbaaChecked
import Derived.Test.YtchgkdhhfbppbaaRangeO
import Derived.Test.YtchgkdhhfbppbaaKit
import Derived.RegionTactic
import Derived.OwnWalkIn
import Derived.TacticsInMore
import Derived.LoopNIn
import Derived.LoopIn
namespace Go.Proofs.Ytchgkdhhfbppbaa
open Go Go.RowKit Go.Fol
attribute [local go_sem ↓] run_min2 run_max2
attribute [local go_sem] Oper.semAt_some
set_option linter.unusedVariables false
set_option linter.unusedSimpArgs false
section
variable {w0 w : World} {R : List Asrt}
/-- the i-th of them. -/
def at_chg (xs : List Value) (i : Nat) (c0 : Int) (ca1 : Option Addr) (cn1 cc1 : Nat) (ca2 : Option Addr) (cn2 cc2 : Nat) : Prop := xs[i * 3]? = some (.int .i64 c0) ∧ xs[i * 3 + 1]? = some (.slice ca1 cn1 cc1) ∧ xs[i * 3 + 2]? = some (.slice ca2 cn2 cc2)
/-- the cells of all are read as such. -/
def are_chg (xs : List Value) (n : Nat) : Prop := ∀ i, i < n → ∃ c0 ca1 cn1 cc1 ca2 cn2 cc2, at_chg xs i c0 ca1 cn1 cc1 ca2 cn2 cc2
set_option maxRecDepth 100000 in
set_option maxHeartbeats 2000000 in
theorem seq_back_chg (b : Nat) (sv : Value) (n : Nat) (xs : List Value) (w : World) (h : VecAt w 30 49 3 b sv n xs) (hat : are_chg xs n) :
    SeqList Try.prog 38 #[.pointer (some ⟨b, 0, none⟩)] (fun k => #[.int .i64 ((n - 1 - k : Nat) : Int), .agg #[xs[(n - 1 - k) * 3]?.getD undef, xs[(n - 1 - k) * 3 + 1]?.getD undef, xs[(n - 1 - k) * 3 + 2]?.getD undef]]) (vfoot b sv) n w := by
  intro l J Jx W hk0 hsz hJ hJx hY h0
  have hW : VecAt W 30 49 3 b sv n xs := keepB_vec h hk0 (fun c hc => hc)
  have hbox := hW.cell
  have hn63 := row_n63 hW.row
  obtain ⟨a, c, rfl⟩ := row_slice hW.row
  refine callsIn_of_wp Try.func38 rfl trivial ?_ rfl
  simp only [Try.ntmps38, List.size_toArray, List.length_cons, List.length_nil, Nat.reduceAdd, Nat.reduceSub, Array.replicate_succ, Array.replicate_zero, List.push_toArray, List.append_toArray, List.nil_append, List.cons_append]
  have HW := Lib.hid hW
  have HJ := Lib.hid hJ
  have HJx := Lib.hid hJx
  have HY := Lib.hid hY
  have Hat := Lib.hid hat
  clear h hk0 hW hJ hJx hY hat
  gi_wp2
  gi_loopw [3] (fun i wr => ∃ k : Nat, k ≤ n ∧ i = .int .i64 ((n : Int) - 1 - k) ∧ J k wr ∧ KeepB (vfoot b (.slice a n c)) W wr) (fun i _ => (intOf i + 1).toNat)
  case atStart => exact ⟨0, Nat.zero_le _, by simp, h0, fun _ _ => rfl⟩
  case round =>
    obtain ⟨k, hk, rfl, hJs, hkp⟩ := hrel
    by_cases hlt : k < n
    · have hvec := keepB_vec HW.out hkp (fun c hc => hc)
      have hrow := hvec.row
      have hbx := hvec.cell
      obtain ⟨fn, tmps, assign, body, hy, hR⟩ := HY.out k wr hlt hJs
      obtain ⟨j, hj⟩ : ∃ j, j = n - 1 - k := ⟨_, rfl⟩
      have hjn : j < n := by omega
      obtain ⟨c0, ca1, cn1, cc1, ca2, cn2, cc2, ⟨hx0, hx1, hx2⟩⟩ := Hat.out j hjn
      rcases row_form hrow with ⟨_, rfl, _⟩ | ⟨g, cap, cur, hsl, _, hnc, _⟩
      · omega
      cases hsl
      have e0 := hrow.cells (g := g) rfl _ _ hx0
      have e1 := hrow.cells (g := g) rfl _ _ hx1
      have e2 := hrow.cells (g := g) rfl _ _ hx2
      rw [Addr.add_lit, Nat.zero_add] at e0 e1 e2
      have g0 : xs[j * 3]?.getD undef = .int .i64 c0 := by rw [hx0]; rfl
      have g1 : xs[j * 3 + 1]?.getD undef = .slice ca1 cn1 cc1 := by rw [hx1]; rfl
      have g2 : xs[j * 3 + 2]?.getD undef = .slice ca2 cn2 cc2 := by rw [hx2]; rfl
      have e9 : (n : Int) - 1 - k = (j : Int) := by omega
      rw [← hj] at hy
      simp only [g0, g1, g2] at hy
      rw [e9]
      have Hkp := Lib.hid hkp
      have Hj := Lib.hid hj
      clear hkp hvec hrow hj e9 hx0 hx1 hx2 g0 g1 g2
      gi_wp2
      refine hR.mono ?_
      rintro e W3 (⟨rfl, hJ3, hk3⟩ | ⟨rfl, hJx3⟩)
      · gi_wp2
        go_roundw
        case rel => exact ⟨k + 1, by omega, by have := Hj.out; congr 1; omega, hJ3, keepB_t Hkp.out hk3⟩
        case measure => simp [intOf]
      · gi_wp2
        refine bodyPost_ret (results_none rfl _ _ _) rfl ?_
        exact ⟨⟨_, rfl⟩, .inr hJx3⟩
    · obtain rfl : k = n := by omega
      gi_wp2
      go_end0
      exact ⟨⟨_, rfl⟩, .inl hJs⟩
theorem o_seq_back_chg {b n : Nat} {xs : List Value} (H : Owns w0 w (Asrt.vec 30 49 3 b n xs :: R)) (hat : are_chg xs n) : ∃ S, SeqList Try.prog 38 #[.pointer (some ⟨b, 0, none⟩)] (fun k => #[.int .i64 ((n - 1 - k : Nat) : Int), .agg #[xs[(n - 1 - k) * 3]?.getD undef, xs[(n - 1 - k) * 3 + 1]?.getD undef, xs[(n - 1 - k) * 3 + 2]?.getD undef]]) S n w ∧ Owns w0 w (Asrt.same w S :: R) := by
  obtain ⟨sv, hv, hu⟩ := H.vec
  exact ⟨_, seq_back_chg b sv n xs w hv hat, H.toSame hu⟩

end
end Go.Proofs.Ytchgkdhhfbppbaa
