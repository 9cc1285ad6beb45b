/- The law PieceSlices on values that read. -/
import Derived.Test.YtdlcmehopnhmgaaCT
import Derived.Test.YtdlcmehopnhmgaaRead
namespace Go.Proofs.Ytdlcmehopnhmgaa
open Go Go.RowKit Go.Fol
attribute [local go_sem ↓] Go.wp_at_zero Go.wp_at_succ
attribute [-go_sem] Go.run_string_add_if
set_option linter.unusedVariables false
set_option linter.unusedSimpArgs false
set_option maxHeartbeats 2000000 in
set_option maxRecDepth 100000 in
theorem pieceSlices_walk (w : World) (v0 v1 v2 v3 v4 : Value) (a0 : Arg Try.prog w 9 v0) (a1 : Arg Try.prog w 9 v1) (a2 : Arg Try.prog w 5 v2) (a3 : Arg Try.prog w 3 v3) (a4 : Arg Try.prog w 3 v4) :
    Calls Try.prog 3 #[v0, v1, v2, v3, v4] w fun e w' => e = .returned (.bool true) ∧ Below w.heap.size w w' := by
  obtain ⟨s0, rfl, hs0⟩ := arg_string Try.underlying9 a0
  obtain ⟨s1, rfl, hs1⟩ := arg_string Try.underlying9 a1
  obtain ⟨at_, rfl, hat⟩ := arg_int Try.underlying5 a2
  obtain ⟨off, rfl, hof⟩ := arg_int Try.underlying3 a3
  obtain ⟨n, rfl, hn⟩ := arg_int Try.underlying3 a4
  obtain ⟨hat0, hat1⟩ := wf_u8 hat
  obtain ⟨hof0, hof1⟩ := wf_i64 hof
  obtain ⟨hn0, hn1⟩ := wf_i64 hn
  clear a0 a1 a2 a3 a4 hat hof hn
  obtain ⟨f, rfl⟩ : ∃ f, s0 = bstr f := ⟨s0.data.toList, (bstr_toList s0).symm⟩
  obtain ⟨g, rfl⟩ : ∃ g, s1 = bstr g := ⟨s1.data.toList, (bstr_toList s1).symm⟩
  have hfz := bstr_size f
  have hgz := bstr_size g
  rw [hfz] at hs0
  rw [hgz] at hs1
  go_enter Try.func3, Try.ntmps3
  go_wp2_with fail
  refine (known_true (Owns.start w)).mono ?_
  rintro e w1 ⟨rfl, h1⟩
  have H1 := Lib.hid h1
  clear h1
  have hw0 : IntKind.i64.wrap ((f.length : Int) + g.length) = (f.length : Int) + g.length := by rw [IntKind.wrap_i64]; omega
  by_cases hbig : 300 < (f.length : Int) + g.length
  · go_wp2_with fail
    go_ret
    exact ⟨rfl, H1.out.below⟩
  have hfg : f.length + g.length ≤ 300 := by omega
  go_wp2_with fail
  refine (cnew 1000 H1.out (by omega) (by omega)).mono ?_
  rintro e w2 ⟨p, rfl, h2⟩
  have hw1 : IntKind.i64.wrap ((f.length : Int) + 1) = (f.length : Int) + 1 := by rw [IntKind.wrap_i64]; omega
  have hne : ((f.length : Int) + 1 == 0) = false := by simp; omega
  obtain ⟨k, hk⟩ : ∃ k : Nat, at_.tmod ((f.length : Int) + 1) = (k : Int) := ⟨(at_.tmod ((f.length : Int) + 1)).toNat, by have := Int.tmod_nonneg ((f.length : Int) + 1) hat0; omega⟩
  have hkf : k ≤ f.length := by have := Int.tmod_lt_of_pos at_ (show (0 : Int) < (f.length : Int) + 1 by omega); omega
  have H2 := Lib.hid h2
  clear h2 H1
  go_wp2_with fail
  have hin := cins0 (s := g) k H2.out (newT_ok (by omega) (by decide)) (by show k ≤ f.length; omega) (by show (g.length : Int) ≤ 1000 - (f.length : Int); omega) (by show 0 + g.length ≤ 90000; omega) (by simp only [newT, newL]; split <;> simp) (Nat.zero_le _)
  rw [newT_tx] at hin
  refine hin.mono ?_
  rintro e w3 ⟨T, rfl, h3⟩
  obtain ⟨hE, h3⟩ := h3.pureE
  obtain ⟨tx, htx⟩ : ∃ tx, tx = f.take k ++ g ++ f.drop k := ⟨_, rfl⟩
  have htl : tx.length = f.length + g.length := by rw [htx]; simp; omega
  have hT := hE.ok
  have hTx : T.tx = tx := by rw [hE.tx, htx]
  have hsz : T.size = tx.length := by rw [hT.size, hTx]
  have c1 := run_cat (a := f.take k) (b := g) (by simp; omega)
  have c2 := run_cat (a := f.take k ++ g) (b := f.drop k) (by simp; omega)
  rw [← htx] at c2
  have e1 := ext_pre f k
  have e2 := ext_suf (f := f) (k := k) rfl
  have ez := bstr_size tx
  rw [htl] at ez hsz
  have H3 := Lib.hid h3
  have HT := Lib.hid hT
  have HTx := Lib.hid hTx
  have htl' : tx.length ≤ 300 := by omega
  clear h3 hin hE hT hTx H2 htx
  have hkl : (k : Int) ≤ f.length := by omega
  have hwk : IntKind.i64.wrap (k : Int) = (k : Int) := by rw [IntKind.wrap_i64]; omega
  have hfb : f.length ≤ 300 := by omega
  go_wp2_with fail
  go_quiet (fail)
  go_wp2_with fail
  clear c1 c2 e1 e2
  have hr := reach_iff T off n
  rw [hsz] at hr
  by_cases hre : reachB T off n = true
  · obtain ⟨q1, q2, q3, q4⟩ := hr.1 hre
    obtain ⟨o, rfl⟩ : ∃ o : Nat, off = (o : Int) := ⟨off.toNat, by omega⟩
    obtain ⟨m, rfl⟩ : ∃ m : Nat, n = (m : Int) := ⟨n.toNat, by omega⟩
    have hsl := cslice o m (H3.out.drewN nq) HT.out (by rw [hsz]; omega)
    rw [HTx.out] at hsl
    refine hsl.mono ?_
    rintro e w4 ⟨rfl, h4⟩
    have Hend := Lib.hid h4
    have n1 : ¬ ((o : Int) < 0) := by omega
    have n2 : ¬ ((m : Int) < 0) := by omega
    have n3 : ¬ (((f.length + g.length : Nat) : Int) < (o : Int)) := by omega
    have n1' : decide ((o : Int) < 0) = false := by simp
    have n2' : decide ((m : Int) < 0) = false := by simp
    have n3' : decide (((f.length + g.length : Nat) : Int) < (o : Int)) = false := by simp; omega
    have n4 : ¬ (((f.length + g.length : Nat) : Int) - (o : Int) < (m : Int)) := by omega
    have n4' : decide (((f.length + g.length : Nat) : Int) - (o : Int) < (m : Int)) = false := by simp; omega
    have hws : IntKind.i64.wrap (((f.length + g.length : Nat) : Int) - o) = ((f.length + g.length : Nat) : Int) - o := by rw [IntKind.wrap_i64]; omega
    have hw2 : IntKind.i64.wrap ((o : Int) + m) = (o : Int) + m := by rw [IntKind.wrap_i64]; omega
    have hw3 : IntKind.i64.wrap ((o + m : Nat) : Int) = ((o + m : Nat) : Int) := by rw [IntKind.wrap_i64]; omega
    have hw4 : IntKind.i64.wrap (o : Int) = (o : Int) := by rw [IntKind.wrap_i64]; omega
    have he : (bstr tx).extract o (o + m) = bstr ((tx.drop o).take m) := by rw [extract_bstr, Nat.add_sub_cancel_left]
    clear h4 hsl hr hre H3 HT HTx
    go_wp2_with fail
    go_ret
    exact ⟨rfl, Hend.out.below⟩
  · have hre' : reachB T off n = false := by simpa using hre
    refine (cslice_out off n (H3.out.drewN nq) HT.out hre').mono ?_
    rintro e w4 ⟨rfl, h4⟩
    have Hend := Lib.hid h4
    clear h4 hre' H3 HT HTx
    by_cases n1 : off < 0
    · clear hr hre
      go_wp2_with fail
      go_ret
      exact ⟨rfl, Hend.out.below⟩
    have n1' : decide (off < 0) = false := by simpa using n1
    by_cases n2 : n < 0
    · clear hr hre
      go_wp2_with fail
      go_ret
      exact ⟨rfl, Hend.out.below⟩
    have n2' : decide (n < 0) = false := by simpa using n2
    by_cases n3 : ((f.length + g.length : Nat) : Int) < off
    · clear hr hre
      go_wp2_with fail
      go_ret
      exact ⟨rfl, Hend.out.below⟩
    have n3' : decide (((f.length + g.length : Nat) : Int) < off) = false := by simpa using n3
    have n4 : ((f.length + g.length : Nat) : Int) - off < n := by
      by_cases h : n ≤ ((f.length + g.length : Nat) : Int) - off
      · exact absurd (hr.2 ⟨by omega, by omega, by omega, h⟩) hre
      · omega
    have hws : IntKind.i64.wrap (((f.length + g.length : Nat) : Int) - off) = ((f.length + g.length : Nat) : Int) - off := by rw [IntKind.wrap_i64]; omega
    clear hr hre
    go_wp2_with fail
    go_ret
    exact ⟨rfl, Hend.out.below⟩
end Go.Proofs.Ytdlcmehopnhmgaa
