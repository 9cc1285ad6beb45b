/- The law KeysNames on values that read. -/
import Derived.Test.YtlehgghidcaodaaDoorKD
import Derived.Test.YtlehgghidcaodaaDoorRead
import Derived.Deep.RegionWith
namespace Go.Proofs.YtlehgghidcaodaaDoor
open Go Go.RowKit Go.Fol
attribute [local go_sem ↓] Go.wp_at_zero Go.wp_at_succ
attribute [local go_sem ↓] run_min2 run_max2
set_option linter.unusedVariables false
set_option linter.unusedSimpArgs false
set_option maxHeartbeats 4000000 in
set_option maxRecDepth 100000 in
theorem keysNames_walk (w : World) (v0 v1 : Value) (a0 : Arg Tryd.prog w 5 v0) (a1 : Arg Tryd.prog w 3 v1) (hL : laidMetH Tryd.prog Rows.keysNamesRow.laid w) (hS : w.ShapedOpen Tryd.prog) :
    Calls Tryd.prog 5 #[v0, v1] w fun e w' => e = .returned (.bool true) ∧ Below w.heap.size w w' := by
  obtain ⟨c, rfl, hc⟩ := arg_int Tryd.underlying5 a0
  obtain ⟨n, rfl, hn⟩ := arg_int Tryd.underlying3 a1
  obtain ⟨hc0, hc1⟩ := wf_u8 hc
  obtain ⟨hn0, hn1⟩ := wf_i64 hn
  have hT : Pow10 w := pow10_of hL
  have HT := Lib.hid hT
  obtain ⟨m, hm⟩ : ∃ m, n.tmod 20000 = m := ⟨_, rfl⟩
  have hm0 : -20000 < m := by rw [← hm]; exact Int.lt_tmod_of_pos _ (by decide)
  have hm1 : m < 20000 := by rw [← hm]; exact Int.tmod_lt_of_pos _ (by decide)
  have Hm := Lib.hid hm
  clear a0 a1 hc hn hL hS hT
  go_enter Tryd.func5, Tryd.ntmps5
  go_wp2_with fail
  refine (known_true HT.out (Owns.start w)).mono ?_
  rintro e w1 ⟨rfl, h1⟩
  have H1 := Lib.hid h1
  clear h1
  have hmA : -9223372036854775808 ≤ m := by omega
  have hmB : m ≤ 9223372036854775807 := by omega
  have hmC : m < 10 ^ (18 + 1) := by omega
  have hwm : IntKind.i64.wrap m = m := by rw [IntKind.wrap_i64]; omega
  have hcvF : ∀ {W : World} {R : List Asrt} {x : Int} {a : Option Addr} {k : Nat}, Owns w W R → bsrcL (.slice a (digL x).length k) (digL x) ∈ R → (convert 22 9 (.slice a (digL x).length k)).run Tryd.prog W = .ok (.string (bs (digL x))) W := fun {W R x a k} h hm =>
    run_bytes_str Tryd.underlying22 Tryd.underlying5 Tryd.underlying9 ((h.mem hm).src)
  have HcvF := Lib.hid (fun W R x a k => @hcvF W R x a k)
  have heqn : ((nameB c).toList == (nameB c).toList) = true := by simp
  clear hcvF
  go_wp2_with fail
  go_region_with
    (first
      | ((go_at_call 12; (with_reducible refine (kname hc0 hc1 H1.out.drew).mono ?_); rintro e w2 ⟨rfl, h2⟩; have H2 := Lib.hid h2; clear h2))
      | ((go_at_call 13; (with_reducible refine (wname hc0 hc1 H2.out).mono ?_); rintro e w3 ⟨rfl, h3⟩; have H3 := Lib.hid h3; clear h3))
      | ((go_at_call 14; (with_reducible refine (kdigits hn0 hn1 (tab_keep HT.out H3.out.chg) H3.out).mono ?_); rintro e w4 ⟨v4, rfl, h4⟩; obtain ⟨a4, k4, rfl⟩ := h4.src.form; have cv4 := HcvF.out _ _ _ _ _ h4 List.mem_cons_self; have H4 := Lib.hid h4; clear h4))
      | ((go_at_call 15; (with_reducible refine (wdigits 18 (n := n) (by omega) hn0 hn1 (by omega) H4.out).mono ?_); rintro e w5 ⟨v5, rfl, h5⟩; obtain ⟨a5, k5, rfl⟩ := row_slice h5.row; have h5' := h5.srcOfRow (by decide); have cv5 := HcvF.out _ _ _ _ _ h5' List.mem_cons_self; have cv45 := HcvF.out _ _ _ _ _ h5' (List.mem_cons_of_mem _ List.mem_cons_self); have H5 := Lib.hid h5'; clear h5 h5'))
      | ((go_at_call 14; (with_reducible refine (kdigits (n := m) hmA hmB (tab_keep HT.out H5.out.chg) H5.out).mono ?_); rintro e w6 ⟨v6, rfl, h6⟩; obtain ⟨a6, k6, rfl⟩ := h6.src.form; have cv6 := HcvF.out _ _ _ _ _ h6 List.mem_cons_self; have H6 := Lib.hid h6; clear h6))
      | ((go_at_call 15; (with_reducible refine (wdigits 18 (n := m) hmC hmA hmB (by omega) H6.out).mono ?_); rintro e w7 ⟨v7, rfl, h7⟩; obtain ⟨a7, k7, rfl⟩ := row_slice h7.row; have h7' := h7.srcOfRow (by decide); have cv7 := HcvF.out _ _ _ _ _ h7' List.mem_cons_self; have cv67 := HcvF.out _ _ _ _ _ h7' (List.mem_cons_of_mem _ List.mem_cons_self); have H7 := Lib.hid h7'; clear h7 h7')))
  all_goals
    go_wp2_with fail
    go_ret
    exact ⟨rfl, H7.out.below⟩
end Go.Proofs.YtlehgghidcaodaaDoor
