/- The law KeysBack on values that read. -/
import Derived.Test.YtlehgghidcaodaaDoorKL
import Derived.Test.YtlehgghidcaodaaDoorRead
namespace Go.Proofs.YtlehgghidcaodaaDoor
open Go Go.RowKit Go.Fol
attribute [local go_sem ↓] Go.wp_at_zero Go.wp_at_succ
set_option linter.unusedVariables false
set_option linter.unusedSimpArgs false
/-- An argument of bytes. -/
theorem arg_bytes {w : World} {v : Value} (a : Arg Tryd.prog w 22 v) : ∃ K : List Int, SrcV w 1 v K.length (kints .u8 K) ∧ bytesN K ∧ K.length ≤ 140737488351232 := by
  obtain ⟨l, hl, hlb, hwf⟩ := arg_kind (kd := .u8) (B := 1) Tryd.underlying22 Tryd.underlying5 (by kernel_rfl) (by kernel_rfl) a
  exact ⟨l, hl, fun x hx => wf_u8 (hwf x hx), by omega⟩
set_option maxHeartbeats 4000000 in
set_option maxRecDepth 100000 in
theorem keysBack_walk (w : World) (v0 : Value) (a0 : Arg Tryd.prog w 22 v0) (hL : laidMetH Tryd.prog Rows.keysBackRow.laid w) (hS : w.ShapedOpen Tryd.prog) :
    Calls Tryd.prog 3 #[v0] w fun e w' => e = .returned (.bool true) ∧ Below w.heap.size w w' := by
  obtain ⟨K, hK, hb, _⟩ := arg_bytes a0
  obtain ⟨n, hn⟩ : ∃ n, n = K.length := ⟨_, rfl⟩
  have hKn := hK
  rw [← hn] at hKn
  obtain ⟨ka, kc, rfl⟩ := hKn.form
  have hn63 := hKn.n63
  have HT : Hid (Pow10 w) := Lib.hid (pow10_of hL)
  have HK := Lib.hid hK
  have Hn := Lib.hid hn
  have Hb := Lib.hid hb
  clear a0 hL hS hK hb hn hKn
  go_enter Tryd.func3, Tryd.ntmps3
  go_wp2_with fail
  refine (known_true HT.out (Owns.start w)).mono ?_
  rintro e w1 ⟨rfl, h1⟩
  have H1 := Lib.hid h1
  clear h1
  go_wp2_with fail
  all_goals first | (go_ret; exact ⟨rfl, H1.out.below⟩) | skip
  have hl : K.length ≤ 200 := by have := Hn.out; omega
  have hRd : Reads w [] 1 (.slice ka n kc) K.length (kints .u8 K) := Reads.old HK.out
  have htl := textL_len K
  have hT1 := ktext Hb.out (by omega) H1.out hRd
  have hP := parse_text K Hb.out
  have Hl := Lib.hid hl
  have Htl := Lib.hid htl
  have HP := Lib.hid hP
  have HRd := Lib.hid hRd
  have HT1 := Lib.hid hT1
  clear hl hRd htl hT1 hP
  refine HT1.out.mono ?_
  rintro e w2 ⟨rfl, h2⟩
  have H2 := Lib.hid h2
  clear h2
  go_wp2_with fail
  refine (kparse (s := textL K) (by have := Hl.out; have := Htl.out; omega) H2.out).mono ?_
  rintro e w3 (⟨hc, _⟩ | ⟨K', v', hK', rfl, h3⟩)
  · rw [HP.out] at hc; cases hc
  rw [HP.out] at hK'
  obtain rfl := Option.some.inj hK'
  obtain ⟨a3, c3, rfl⟩ := row_slice h3.row
  have H3 := Lib.hid h3
  clear h3 hK'
  go_wp2_with fail
  refine (wtext Hb.out (by have := Hl.out; omega) H3.out HRd.out.cons).mono ?_
  rintro e w4 ⟨rfl, h4⟩
  have cv1 : (convert 22 9 (.slice a3 K.length c3)).run Tryd.prog w4 = .ok (.string (bs (nb K))) w4 :=
    run_bytes_str Tryd.underlying22 Tryd.underlying5 Tryd.underlying9 (by rw [bn_nb Hb.out]; exact SrcV.of_row h4.row)
  have cv2 : (convert 22 9 (.slice ka n kc)).run Tryd.prog w4 = .ok (.string (bs (nb K))) w4 :=
    run_bytes_str (n := K.length) Tryd.underlying22 Tryd.underlying5 Tryd.underlying9 (by rw [bn_nb Hb.out]; exact HRd.out.cons _ h4)
  have H4 := Lib.hid h4
  clear h4
  go_wp2_with fail
  go_ret
  exact ⟨rfl, H4.out.below⟩
end Go.Proofs.YtlehgghidcaodaaDoor
