/- The law MacroEnds on values that read. -/
import Derived.Test.YtkgngcibjkkhkaaDoorMV
import Derived.Test.YtkgngcibjkkhkaaDoorRead
import Derived.Test.YtkgngcibjkkhkaaDoorRows
namespace Go.Proofs.YtkgngcibjkkhkaaDoor
open Go Go.RowKit Go.Fol
attribute [local go_sem ↓] Go.wp_at_zero Go.wp_at_succ
set_option linter.unusedVariables false
set_option linter.unusedSimpArgs false
/-- An argument of bytes. -/
theorem arg_bytes {w : World} {v : Value} (a : Arg Tryd.prog w 22 v) : ∃ K : List Int, SrcV w 1 v K.length (kints .u8 K) ∧ bytesN K ∧ K.length ≤ 140737488351232 := by
  obtain ⟨l, hl, hlb, hwf⟩ := arg_kind (kd := .u8) (B := 1) Tryd.underlying22 Tryd.underlying5 (by kernel_rfl) (by kernel_rfl) a
  exact ⟨l, hl, fun x hx => wf_u8 (hwf x hx), by omega⟩
/-- Behind i rounds of a push and a key. -/
structure Ends (fuel : Nat) (i : Nat) (s : St) (got : Nat) : Prop where
  ok : s.ok
  gotE : got = min i fuel
  leftE : s.left = (fuel : Int) - got
  depth : 1 ≤ s.depth
  some : fuel < i → s.L ≠ []
theorem push_some {s : St} {K : List Int} {n : Int} (hd : 1 ≤ s.depth) (hK : K ≠ []) (hn : 1 ≤ n) : (pushF s K n).2.L ≠ [] := by
  unfold pushF
  rw [if_neg (by intro h; rcases h with h | h; omega; exact hK h)]
  split
  · rename_i h
    intro h0
    rw [h0] at h
    simp at h
    omega
  · simp
theorem push_rest (s : St) (K : List Int) (n : Int) : (pushF s K n).2.left = s.left ∧ (pushF s K n).2.depth = s.depth ∧ (pushF s K n).2.fuel = s.fuel := by
  unfold pushF
  split
  · exact ⟨rfl, rfl, rfl⟩
  · split <;> exact ⟨rfl, rfl, rfl⟩
theorem next_rest {s s' : St} {c : Int} (h : nextF s = some (c, s')) : s'.left = s.left - 1 ∧ s'.depth = s.depth ∧ s'.fuel = s.fuel ∧ s.left ≠ 0 := by
  unfold nextF at h
  split at h
  · cases h
  · split at h
    · cases h
    · rename_i h0
      cases h
      exact ⟨rfl, rfl, rfl, h0⟩
theorem next_none {s : St} (h : nextF s = none) (hL : s.L ≠ []) : s.left = 0 := by
  unfold nextF at h
  split at h
  · rename_i hl
    exact absurd (by simpa using hl) hL
  · split at h
    · assumption
    · cases h
theorem ends_step {fuel i : Nat} {s : St} {got : Nat} {K : List Int} {n : Int} (h : Ends fuel i s got) (hK : K ≠ []) (hK1 : K.length ≤ 1000) (hb : bytesN K) (hn : 1 ≤ n) (hn2 : n ≤ 9223372036854775807) :
    Ends fuel (i + 1) (nextS (pushF s K n).2 (nextF (pushF s K n).2)) (match nextF (pushF s K n).2 with | some _ => got + 1 | none => got) := by
  have hs1 := push_ok (n := n) h.ok hK1 hb hn2
  obtain ⟨r1, r2, r3⟩ := push_rest s K n
  have hne := push_some (s := s) h.depth hK hn
  have hg := h.gotE
  have hl := h.leftE
  have hl0 := h.ok.left.1
  cases hx : nextF (pushF s K n).2 with
  | none =>
    have h0 := next_none hx hne
    dsimp only [nextS]
    exact ⟨hs1, by show got = _; omega, by show (pushF s K n).2.left = _; omega, by show 1 ≤ (pushF s K n).2.depth; rw [r2]; exact h.depth, fun _ => hne⟩
  | some x =>
    obtain ⟨c, s'⟩ := x
    obtain ⟨q1, q2, q3, q4⟩ := next_rest hx
    dsimp only [nextS]
    exact ⟨(next_ok hs1 hx).1, by show got + 1 = _; omega, by show s'.left = _; omega, by show 1 ≤ s'.depth; rw [q2, r2]; exact h.depth, fun hf => by exfalso; omega⟩
set_option maxHeartbeats 4000000 in
set_option maxRecDepth 100000 in
theorem macroEnds_walk (w : World) (v0 v1 v2 v3 : Value) (a0 : Arg Tryd.prog w 5 v0) (a1 : Arg Tryd.prog w 5 v1) (a2 : Arg Tryd.prog w 22 v2) (a3 : Arg Tryd.prog w 3 v3) (hL : laidMetH Tryd.prog Rows.macroEndsRow.laid w) (hS : w.ShapedOpen Tryd.prog) :
    Calls Tryd.prog 3 #[v0, v1, v2, v3] w fun e w' => e = .returned (.bool true) ∧ Below w.heap.size w w' := by
  obtain ⟨fu, rfl, hfu⟩ := arg_int Tryd.underlying5 a0
  obtain ⟨de, rfl, hde⟩ := arg_int Tryd.underlying5 a1
  obtain ⟨K, hK, hb, hnc⟩ := arg_bytes a2
  obtain ⟨n, rfl, hn⟩ := arg_int Tryd.underlying3 a3
  obtain ⟨hfu0, hfu1⟩ := wf_u8 hfu
  obtain ⟨hde0, hde1⟩ := wf_u8 hde
  obtain ⟨hn0, hn1⟩ := wf_i64 hn
  obtain ⟨f, rfl⟩ : ∃ f : Nat, fu = f := ⟨fu.toNat, by omega⟩
  obtain ⟨kl, hkl⟩ : ∃ kl, kl = K.length := ⟨_, rfl⟩
  rw [← hkl] at hK hnc
  obtain ⟨ka, kc, rfl⟩ := hK.form
  have hk63 := hK.n63
  have HM : Hid (MaxInt w) := Lib.hid (maxInt_of hS)
  have HK := Lib.hid (show Reads w [] 1 (.slice ka kl kc) kl (kints .u8 K) from Reads.old hK)
  have Hkl := Lib.hid hkl
  have Hb := Lib.hid hb
  clear a0 a1 a2 a3 hL hS hK hb hkl hfu hde hn
  go_enter Tryd.func3, Tryd.ntmps3
  go_wp2_with fail
  refine (known_true HM.out (Owns.start w)).mono ?_
  rintro e w1 ⟨rfl, h1⟩
  have H1 := Lib.hid h1
  clear h1 HM
  by_cases hk10 : kl ≤ 10
  rotate_left
  · go_wp2_with fail
    go_ret
    exact ⟨rfl, H1.out.below⟩
  by_cases hk0 : kl = 0
  · subst hk0
    go_wp2_with fail
    go_ret
    exact ⟨rfl, H1.out.below⟩
  have hkz : ((kl : Int) == 0) = false := beq_eq_false_iff_ne.2 (by omega)
  by_cases hn1' : n < 1
  · go_wp2_with fail
    go_ret
    exact ⟨rfl, H1.out.below⟩
  have hK0 : K ≠ [] := fun h => hk0 (by rw [Hkl.out, h]; rfl)
  have hK1 : K.length ≤ 1000 := by rw [← Hkl.out]; omega
  have HK0 := Lib.hid hK0
  have HK1 := Lib.hid hK1
  have hn1p : 1 ≤ n := by omega
  clear hK0 hK1 hk0
  have hd9 : 0 ≤ de % 9 ∧ de % 9 ≤ 8 := by omega
  obtain ⟨dm, hdm⟩ : ∃ dm, de % 9 = dm := ⟨_, rfl⟩
  rw [hdm] at hd9
  obtain ⟨hd90, hd91⟩ := hd9
  go_wp2_with fail
  refine (mnew f (dm + 1) H1.out).mono ?_
  rintro e w2 ⟨p, rfl, h2⟩
  have H2 := Lib.hid h2
  have hE0 : Ends f 0 (newS f (dm + 1)) 0 := ⟨new_ok (by omega) (by omega), by omega, by show max (f : Int) 0 = _; omega, by show 1 ≤ max (dm + 1) 0; omega, fun h => by omega⟩
  have HE0 := Lib.hid hE0
  clear h2 H1 hE0 hdm
  go_wp2_with fail
  go_loopw [10, 11] (fun gv q wr => ∃ (i got : Nat) (s : St), i ≤ 600 ∧ q = .int .i64 i ∧ gv = .int .i64 got ∧ Ends f i s got ∧ Owns w wr [stkA p s]) (fun _ q _ => 600 - (intOf q).toNat)
  case atStart => exact ⟨0, 0, _, by omega, rfl, rfl, HE0.out, H2.out⟩
  case round =>
    obtain ⟨i, got, s, hi, rfl, rfl, hE, h3⟩ := hrel
    have hgi : got ≤ i := by have := hE.gotE; omega
    have hgf : got ≤ f := by have := hE.gotE; omega
    have HE := Lib.hid hE
    have H3 := Lib.hid h3
    clear hE h3 H2 HE0
    by_cases hlt : i < 600
    · have hst := ends_step HE.out HK0.out HK1.out Hb.out hn1p hn1
      have Hst := Lib.hid hst
      obtain ⟨b, s1, hp⟩ : ∃ b s1, pushF s K n = (b, s1) := ⟨_, _, rfl⟩
      have hs1 : s1.ok := by have := push_ok (n := n) HE.out.ok HK1.out Hb.out hn1; rw [hp] at this; exact this
      have hpu := mpush H3.out HE.out.ok (by rw [← Hkl.out]; exact HK.out) HK1.out hp
      rw [← Hkl.out] at hpu
      have Hpu := Lib.hid hpu
      have Hs1 := Lib.hid hs1
      have Hp := Lib.hid hp
      clear hst hpu hs1 hp
      go_wp2_with fail
      refine Hpu.out.mono ?_
      rintro e w4 ⟨rfl, h4⟩
      have hm := mnext h4 Hs1.out
      have Hst2 : Hid (Ends f (i + 1) (nextS s1 (nextF s1)) (match nextF s1 with | some _ => got + 1 | none => got)) := Lib.hid (by have := Hst.out; rw [Hp.out] at this; exact this)
      clear h4 Hpu Hst Hp
      cases hx : nextF s1 with
      | none =>
        rw [hx] at hm
        have hm' : Calls Tryd.prog 11 #[.pointer (some ⟨p, 0, none⟩)] w4 (Ret (.tuple #[.int .u8 0, .bool false]) w [stkA p s1]) := hm
        have Hm := Lib.hid hm'
        have Hst3 : Hid (Ends f (i + 1) s1 got) := Lib.hid (by have := Hst2.out; rw [hx] at this; exact this)
        clear hm hm' hx Hst2
        go_wp2_with fail
        refine Hm.out.mono ?_
        rintro e w5 ⟨rfl, h5⟩
        have H5 := Lib.hid h5
        clear h5
        go_wp2_with fail
        go_roundw
        case rel => exact ⟨i + 1, got, s1, by omega, by go_num, rfl, Hst3.out, H5.out⟩
        case measure => simp [intOf]; omega
      | some x =>
        obtain ⟨c, s2⟩ := x
        rw [hx] at hm
        have hm' : Calls Tryd.prog 11 #[.pointer (some ⟨p, 0, none⟩)] w4 (Ret (.tuple #[.int .u8 c, .bool true]) w [stkA p s2]) := hm
        have Hm := Lib.hid hm'
        have Hst3 : Hid (Ends f (i + 1) s2 (got + 1)) := Lib.hid (by have := Hst2.out; rw [hx] at this; exact this)
        clear hm hm' hx Hst2
        go_wp2_with fail
        refine Hm.out.mono ?_
        rintro e w5 ⟨rfl, h5⟩
        have H5 := Lib.hid h5
        clear h5
        go_wp2_with fail
        go_roundw
        case rel => exact ⟨i + 1, got + 1, s2, by omega, by go_num, by go_num, Hst3.out, H5.out⟩
        case measure => simp [intOf]; omega
    · obtain rfl : i = 600 := by omega
      obtain rfl : got = f := by have := HE.out.gotE; omega
      have hl0 : s.left = 0 := by have := HE.out.leftE; omega
      have hleft := mleft H3.out
      rw [hl0] at hleft
      have hdry := mdry H3.out
      rw [show dryB s = true by
        unfold dryB
        have := HE.out.some (by omega)
        have h1 : 0 < s.L.length := List.length_pos_iff.2 this
        rw [hl0]
        simp [h1]] at hdry
      have Hleft := Lib.hid hleft
      have Hdry := Lib.hid hdry
      clear hleft hdry hl0 hlt
      by_cases hf0 : got = 0
      · subst hf0
        go_wp2_with (first | (go_at_call 12; refine Hleft.out.mono ?_; rintro e w' ⟨rfl, rfl⟩) | (go_at_call 13; refine Hdry.out.mono ?_; rintro e w' ⟨rfl, rfl⟩) | fail)
        go_ret
        exact ⟨rfl, H3.out.below⟩
      · have hfz : ((got : Int) == 0) = false := beq_eq_false_iff_ne.2 (by omega)
        clear hf0
        go_wp2_with (first | (go_at_call 12; refine Hleft.out.mono ?_; rintro e w' ⟨rfl, rfl⟩) | (go_at_call 13; refine Hdry.out.mono ?_; rintro e w' ⟨rfl, rfl⟩) | fail)
        go_ret
        exact ⟨rfl, H3.out.below⟩
end Go.Proofs.YtkgngcibjkkhkaaDoor
