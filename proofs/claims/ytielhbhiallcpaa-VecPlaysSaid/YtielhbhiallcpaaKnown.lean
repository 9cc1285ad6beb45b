/- The chapter's example of vectors: true. -/
import Derived.Test.YtielhbhiallcpaaVecAtInt
import Derived.Test.YtielhbhiallcpaaVecSetInt
import Derived.Test.YtielhbhiallcpaaVecDelInt
import Derived.Test.YtielhbhiallcpaaRange
namespace Go.Proofs.Ytielhbhiallcpaa
open Go Go.RowKit Go.Fol
attribute [local go_sem ↓] run_min2 run_max2
set_option linter.unusedVariables false
set_option linter.unusedSimpArgs false

theorem eql_ptr_nil (p : Addr) (w : World) : (binOp .eql 33 (.pointer (some p)) (.pointer none)).run Try.prog w = .ok (.bool false) w := by kernel_rfl

set_option maxHeartbeats 2000000 in
theorem known_true (w : World) : Calls Try.prog 8 #[] w fun e w' => e = .returned (.bool true) ∧ Chg [] w w' := by
  have heq := eql_ptr_nil
  go_enter Try.func8, Try.ntmps8
  go_wp2_with fail
  refine (new_int _ 2 (ints [1, 2]) _ (srcv_new w (ints [1, 2]) 3 2 1 rfl (by decide)) (ints_one _) (by decide)).mono ?_
  rintro e w1 ⟨p, sv, rfl, hv, hc, hnew⟩
  have Hc := Lib.hid hc
  have Hv := Lib.hid hv
  have Hnew := Lib.hid hnew
  clear hc hv hnew
  go_wp2_with fail
  refine (insert_in_int p 1 _ sv 2 1 (ints [1, 2]) (ints [9]) _ (Hv.out.alloc _) (srcv_new w1 (ints [9]) 3 1 1 rfl (by decide)) (fun _ b hb => by cases hb; exact Hv.out.off_new) (ints_one _) (ints_one _) (by decide) (by decide) (by decide)).mono ?_
  rintro e w2 ⟨sv2, rfl, hv2, hm2⟩
  have Hv2 := Lib.hid hv2
  have Hm2 := Lib.hid hm2
  clear hv2 hm2
  go_wp2_with fail
  refine (insert_out_int p 9 _ sv2 3 1 _ (ints [1]) _ (Hv2.out.alloc _) (srcv_new w2 (ints [1]) 3 1 1 rfl (by decide)) (by omega)).mono ?_
  rintro e w3 ⟨rfl, rfl⟩
  go_wp2_with fail
  refine (at_in_int p 1 (.int .i64 9) sv2 3 _ _ (Hv2.out.alloc _) (by decide) (by decide) rfl).mono ?_
  rintro e w3 ⟨rfl, rfl⟩
  go_wp2_with fail
  refine (delete_in_int p 0 1 sv2 3 1 _ _ (Hv2.out.alloc _) (by decide) (by decide) (by decide) (by decide) (by decide) (by decide) (by decide)).mono ?_
  rintro e w3 ⟨sv3, d, rfl, hv3, hd3, hm3, hdn⟩
  obtain ⟨g, c, rfl⟩ := row_slice hd3
  obtain ⟨g', rfl, _, hcd⟩ := row_cell1 hd3 (k := 0) (by decide)
  have Hv3 := Lib.hid hv3
  have Hd3 := Lib.hid hd3
  have Hm3 := Lib.hid hm3
  have Hdn := Lib.hid hdn
  have hcd' : w3.cell? ⟨g', 0, none⟩ = some (.int .i64 1) := hcd
  clear hv3 hd3 hm3 hdn hcd
  go_wp2_with fail
  refine (len_int p sv3 _ _ _ Hv3.out).mono ?_
  rintro e w4 ⟨rfl, rfl⟩
  go_wp2_with fail
  refine (set_in_int p 0 (.int .i64 7) rfl sv3 _ _ _ Hv3.out (by decide) (by decide)).mono ?_
  rintro e w4 ⟨sv4, rfl, hv4, hm4⟩
  go_wp2_with fail
  go_ret
  refine ⟨rfl, ?_⟩
  exact ((((Own.of_new ((Chg.refl [] w).alloc _) Hv.out (Hc.out) Hnew.out).alloc _).moved Hv2.out Hm2.out).alloc _ |>.moved Hv3.out Hm3.out |>.moved hv4 hm4).chg
end Go.Proofs.Ytielhbhiallcpaa
