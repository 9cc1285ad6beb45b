/- The law PieceLimit on values that read. -/
import Derived.Test.YtdlcmehopnhmgaaCZ
import Derived.Test.YtdlcmehopnhmgaaRead
namespace Go.Proofs.Ytdlcmehopnhmgaa
open Go Go.RowKit Go.Fol
attribute [local go_sem ↓] Go.wp_at_zero Go.wp_at_succ
set_option linter.unusedVariables false
set_option linter.unusedSimpArgs false
theorem wf_i8 {x : Int} (h : (Lit.int .i8 x).wf = true) : -128 ≤ x ∧ x ≤ 127 := by simpa [Lit.wf, IntKind.min, IntKind.max, IntKind.signed, IntKind.bits] using h
set_option maxHeartbeats 2000000 in
set_option maxRecDepth 100000 in
theorem pieceLimit_walk (w : World) (v0 v1 v2 : Value) (a0 : Arg Try.prog w 9 v0) (a1 : Arg Try.prog w 9 v1) (a2 : Arg Try.prog w 31 v2) :
    Calls Try.prog 4 #[v0, v1, v2] w fun e w' => e = .returned (.bool true) ∧ Below w.heap.size w w' := by
  obtain ⟨s0, rfl, hs0⟩ := arg_string Try.underlying9 a0
  obtain ⟨s1, rfl, hs1⟩ := arg_string Try.underlying9 a1
  obtain ⟨le, rfl, hle⟩ := arg_int Try.underlying31 a2
  obtain ⟨hle0, hle1⟩ := wf_i8 hle
  clear a0 a1 a2 hle
  obtain ⟨f, rfl⟩ : ∃ f, s0 = bstr f := ⟨s0.data.toList, (bstr_toList s0).symm⟩
  obtain ⟨g, rfl⟩ : ∃ g, s1 = bstr g := ⟨s1.data.toList, (bstr_toList s1).symm⟩
  have hfz := bstr_size f
  have hgz := bstr_size g
  rw [hfz] at hs0
  rw [hgz] at hs1
  go_enter Try.func4, Try.ntmps4
  go_wp2_with fail
  refine (known_true (Owns.start w)).mono ?_
  rintro e w1 ⟨rfl, h1⟩
  have H1 := Lib.hid h1
  clear h1
  have hw0 : IntKind.i64.wrap ((f.length : Int) + g.length) = (f.length : Int) + g.length := by rw [IntKind.wrap_i64]; omega
  by_cases hbig : 300 < (f.length : Int) + g.length
  · go_wp2_with fail
    go_ret
    exact ⟨rfl, H1.out.below⟩
  have hfg : f.length + g.length ≤ 300 := by omega
  obtain ⟨d, hd⟩ : ∃ d, le.tmod 3 = d := ⟨_, rfl⟩
  have hd1 : -2 ≤ d ∧ d ≤ 2 := by
    have h1 := Int.tmod_lt_of_pos le (show (0 : Int) < 3 by omega)
    have h2 : -3 < le.tmod 3 := by
      have := Int.lt_tmod_of_pos le (show (0 : Int) < 3 by omega)
      omega
    omega
  obtain ⟨hd1, hd2⟩ := hd1
  have hw8 : IntKind.i8.wrap d = d := by unfold IntKind.wrap; simp [IntKind.bits, IntKind.signed]; omega
  have hwd : IntKind.i64.wrap d = d := by rw [IntKind.wrap_i64]; omega
  have hwm : IntKind.i64.wrap ((f.length : Int) + g.length + d) = (f.length : Int) + g.length + d := by rw [IntKind.wrap_i64]; omega
  by_cases hfit : (f.length : Int) ≤ (f.length : Int) + g.length + d
  · have hnew := cnew ((f.length : Int) + g.length + d) H1.out hfit (by omega)
    have Hnew := Lib.hid hnew
    clear hnew
    go_wp2_with fail
    refine Hnew.out.mono ?_
    rintro e w2 ⟨p, rfl, h2⟩
    obtain ⟨hf, hhf⟩ : ∃ hf : Nat, (f.length : Int).tdiv 2 = (hf : Int) := ⟨f.length / 2, by rw [Int.tdiv_eq_ediv_of_nonneg (by omega)]; omega⟩
    have hhl : hf ≤ f.length := by rw [Int.tdiv_eq_ediv_of_nonneg (by omega)] at hhf; omega
    have hok : (newT f ((f.length : Int) + g.length + d)).ok := newT_ok (by omega) ⟨by omega, by omega⟩
    have hwh : IntKind.i64.wrap (hf : Int) = (hf : Int) := by rw [IntKind.wrap_i64]; omega
    by_cases hneg : d < 0
    · have hin := cins_full (s := g) hf h2 hok hhl (by show (f.length : Int) + g.length + d - (f.length : Int) < _; omega)
      have Hin := Lib.hid hin
      have Hok := Lib.hid hok
      clear h2 hin hok Hnew H1
      go_wp2_with fail
      refine Hin.out.mono ?_
      rintro e w3 ⟨rfl, h3⟩
      have hwl := cwhole (tx := f) (ed := 0) h3 Hok.out (newT_tx _ _) rfl (by simp only [newT, newL]; split <;> simp)
      have Hwl := Lib.hid hwl
      clear h3 hwl Hin Hok
      go_wp2_with (go_at_call 13; refine Hwl.out.mono ?_; rintro e w4 ⟨rfl, h4⟩; have H4 := Lib.hid h4; clear h4)
      go_ret
      exact ⟨rfl, H4.out.below⟩
    · have hneg' : decide (d < 0) = false := by simpa using hneg
      have hin := cins0 (s := g) hf h2 hok hhl (by show (g.length : Int) ≤ (f.length : Int) + g.length + d - (f.length : Int); omega) (by show 0 + g.length ≤ 90000; omega) (by simp only [newT, newL]; split <;> simp) (Nat.zero_le _)
      have Hin := Lib.hid hin
      clear h2 hin hok Hnew H1
      go_wp2_with fail
      refine Hin.out.mono ?_
      rintro e w3 ⟨T, rfl, h3⟩
      obtain ⟨hE, h3⟩ := h3.pureE
      have hsz : T.size = f.length + g.length := by rw [hE.ok.size, hE.tx, newT_tx]; simp; omega
      have hl := clen h3
      rw [hsz] at hl
      have Hl := Lib.hid hl
      have H3 := Lib.hid h3
      clear h3 hE hl Hin
      go_wp2_with (go_at_call 14; refine Hl.out.mono ?_; rintro e w4 ⟨rfl, rfl⟩)
      go_ret
      exact ⟨rfl, H3.out.below⟩
  · have hnew := cnew_full (f := f) ((f.length : Int) + g.length + d) H1.out (by omega)
    have hfit' : decide ((f.length : Int) ≤ (f.length : Int) + g.length + d) = false := by simpa using hfit
    have Hnew := Lib.hid hnew
    clear hnew
    go_wp2_with fail
    refine Hnew.out.mono ?_
    rintro e w2 ⟨rfl, h2⟩
    have H2 := Lib.hid h2
    clear h2 H1 Hnew
    go_wp2_with fail
    go_ret
    exact ⟨rfl, H2.out.below⟩
end Go.Proofs.Ytdlcmehopnhmgaa
