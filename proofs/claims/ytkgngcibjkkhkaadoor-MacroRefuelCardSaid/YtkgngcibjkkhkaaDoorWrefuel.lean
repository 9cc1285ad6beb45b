/- The law MacroRefuel on values that read. -/
import Derived.Test.YtkgngcibjkkhkaaDoorMH
import Derived.Test.YtkgngcibjkkhkaaDoorRead
import Derived.Test.YtkgngcibjkkhkaaDoorRows
namespace Go.Proofs.YtkgngcibjkkhkaaDoor
open Go Go.RowKit Go.Fol
attribute [local go_sem ↓] Go.wp_at_zero Go.wp_at_succ
attribute [local go_sem ↓] run_min2 run_max2
set_option linter.unusedVariables false
set_option linter.unusedSimpArgs false
/-- Behind k keys of the one frame. -/
def rF (k : Nat) : Fr := ⟨[1, 2, 3], 1000 - ((k / 3 : Nat) : Int), k % 3⟩
def rS (f k : Nat) : St := ⟨[rF k], f, (f : Int) - k, 3⟩
theorem rF_ok {k : Nat} (hk : k ≤ 255) : (rF k).ok :=
  ⟨by show k % 3 < 3; omega, by show 1 ≤ 1000 - ((k / 3 : Nat) : Int); omega, by show 3 ≤ 1000; decide, fun x hx => by simp [rF] at hx; omega, by show 1000 - ((k / 3 : Nat) : Int) ≤ _; omega⟩
theorem rS_ok {f k : Nat} (hk : k ≤ f) (hf : f ≤ 255) : (rS f k).ok :=
  ⟨fun g hg => by simp [rS] at hg; subst hg; exact rF_ok (by omega), by simp [rS], by simp only [rS]; omega, by simp only [rS]; omega, by simp only [rS]; omega⟩
theorem stepFr_turn {f : Fr} (h : f.at_ + 1 = f.K.length) (h2 : ¬ f.n - 1 < 1) : stepFr f = some { f with at_ := 0, n := f.n - 1 } := by
  unfold stepFr
  rw [if_pos h, if_neg h2]
theorem stepFr_on {f : Fr} (h : f.at_ + 1 ≠ f.K.length) : stepFr f = some { f with at_ := f.at_ + 1 } := by
  unfold stepFr
  rw [if_neg h]
theorem nextF_at {s : St} {A : List Fr} {f g : Fr} (hL : s.L = A ++ [f]) (h : s.left ≠ 0) (hg : stepFr f = some g) : nextF s = some (f.K.getD f.at_ 0, { s with L := A ++ [g], left := s.left - 1 }) := by
  obtain ⟨L, fu, l, d⟩ := s
  subst hL
  simp only [nextF, List.getLast?_concat, List.dropLast_concat, popL, hg]
  exact if_neg h
theorem rstep {k : Nat} (hk : k ≤ 255) : stepFr (rF k) = some (rF (k + 1)) := by
  by_cases h : k % 3 + 1 = 3
  · rw [stepFr_turn h (by show ¬ 1000 - ((k / 3 : Nat) : Int) - 1 < 1; omega)]
    show some (⟨[1, 2, 3], 1000 - ((k / 3 : Nat) : Int) - 1, 0⟩ : Fr) = some ⟨[1, 2, 3], 1000 - (((k + 1) / 3 : Nat) : Int), (k + 1) % 3⟩
    rw [show 1000 - ((k / 3 : Nat) : Int) - 1 = 1000 - (((k + 1) / 3 : Nat) : Int) by omega, show (k + 1) % 3 = 0 by omega]
  · rw [stepFr_on h]
    show some (⟨[1, 2, 3], 1000 - ((k / 3 : Nat) : Int), k % 3 + 1⟩ : Fr) = some ⟨[1, 2, 3], 1000 - (((k + 1) / 3 : Nat) : Int), (k + 1) % 3⟩
    rw [show 1000 - ((k / 3 : Nat) : Int) = 1000 - (((k + 1) / 3 : Nat) : Int) by omega, show (k + 1) % 3 = k % 3 + 1 by omega]
theorem rnext {f k : Nat} (hk : k < f) (hf : f ≤ 255) : ∃ c, nextF (rS f k) = some (c, rS f (k + 1)) := by
  refine ⟨(rF k).K.getD (rF k).at_ 0, ?_⟩
  rw [nextF_at (s := rS f k) (A := []) rfl (by show (f : Int) - k ≠ 0; omega) (rstep (by omega))]
  show some (_, (⟨[rF (k + 1)], f, (f : Int) - k - 1, 3⟩ : St)) = some (_, ⟨[rF (k + 1)], f, (f : Int) - ((k + 1 : Nat) : Int), 3⟩)
  rw [show (f : Int) - k - 1 = (f : Int) - ((k + 1 : Nat) : Int) by omega]
theorem rnext_none {f : Nat} : nextF (rS f f) = none := by simp [nextF, rS]
theorem refuel_ok {s : St} (h : s.ok) (b : Bool) : ({ (if b then { s with L := [] } else s) with left := s.fuel } : St).ok := by
  cases b
  · exact ⟨h.fr, h.len, h.fuel, h.fuel, h.depth⟩
  · exact ⟨fun f hf => by simp at hf, by simp, h.fuel, h.fuel, h.depth⟩
/-- Behind the refuelling: the next key or none. -/
theorem rend3 {f k : Nat} (hk : k ≤ 255) (h0 : f ≠ 0) : ∃ (c : Int) (s : St), nextF ⟨[rF k], f, f, 3⟩ = some (c, s) ∧ s.left = (f : Int) - 1 ∧ s.L.length = 1 :=
  ⟨_, _, nextF_at (s := ⟨[rF k], f, f, 3⟩) (A := []) rfl (by show (f : Int) ≠ 0; omega) (rstep hk), rfl, rfl⟩
theorem rend2 {k : Nat} : nextF ⟨[rF k], 0, 0, 3⟩ = none := by simp [nextF]
theorem rend1 {f : Int} : nextF ⟨[], f, f, 3⟩ = none := rfl
theorem rend1_ok {f : Nat} (h : f ≤ 255) : St.ok ⟨[], f, f, 3⟩ := ⟨fun f hf => by simp at hf, by simp, by simp only []; omega, by simp only []; omega, by simp only []; omega⟩
theorem rend2_ok {f k : Nat} (h : f ≤ 255) (hk : k ≤ 255) : St.ok ⟨[rF k], f, f, 3⟩ := ⟨fun g hg => by simp at hg; subst hg; exact rF_ok hk, by simp, by simp only []; omega, by simp only []; omega, by simp only []; omega⟩
set_option maxHeartbeats 4000000 in
set_option maxRecDepth 100000 in
theorem macroRefuel_walk (w : World) (v0 v1 v2 : Value) (a0 : Arg Tryd.prog w 5 v0) (a1 : Arg Tryd.prog w 5 v1) (a2 : Arg Tryd.prog w 4 v2) (hL : laidMetH Tryd.prog Rows.macroRefuelRow.laid w) (hS : w.ShapedOpen Tryd.prog) :
    Calls Tryd.prog 7 #[v0, v1, v2] w fun e w' => e = .returned (.bool true) ∧ Below w.heap.size w w' := by
  obtain ⟨fu, rfl, hfu⟩ := arg_int Tryd.underlying5 a0
  obtain ⟨nu, rfl, hnu⟩ := arg_int Tryd.underlying5 a1
  obtain ⟨drop, rfl⟩ := arg_bool Tryd.underlying4 a2
  obtain ⟨hfu0, hfu1⟩ := wf_u8 hfu
  obtain ⟨hnu0, hnu1⟩ := wf_u8 hnu
  obtain ⟨f, rfl⟩ : ∃ f : Nat, fu = f := ⟨fu.toNat, by omega⟩
  obtain ⟨n, rfl⟩ : ∃ n : Nat, nu = n := ⟨nu.toNat, by omega⟩
  have HM : Hid (MaxInt w) := Lib.hid (maxInt_of hS)
  have hf : f ≤ 255 := by omega
  have hn : n ≤ 255 := by omega
  clear a0 a1 a2 hL hS hfu hnu
  go_enter Tryd.func7, Tryd.ntmps7
  go_wp2_with fail
  refine (known_true HM.out (Owns.start w)).mono ?_
  rintro e w1 ⟨rfl, h1⟩
  have H1 := Lib.hid h1
  clear h1
  go_wp2_with fail
  refine (mnew f 3 H1.out).mono ?_
  rintro e w2 ⟨p, rfl, h2⟩
  have h3 := h2.allocO (.cells #[.int .u8 1, .int .u8 2, .int .u8 3] 5 (0, 0))
  have hpp : pushF (newS f 3) [1, 2, 3] 1000 = (true, rS f 0) := by
    have e1 : max (f : Int) 0 = f := by omega
    have e2 : max (3 : Int) 0 = 3 := by omega
    simp [pushF, newS, rS, rF, e1, e2]
  have hp := mpush (K := [1, 2, 3]) (ka := some ⟨w2.heap.size, 0, none⟩) (kc := 3) (n := 1000) h3.p1 (new_ok (by omega) (by decide)) (Reads.obj (b := w2.heap.size) (k := 1) (n := 3) (c := 3) (t := 5) (f := (0, 0)) (cs := #[.int .u8 1, .int .u8 2, .int .u8 3]) List.mem_cons_self (by decide) (by decide) (by simp)) (by decide) hpp
  have Hp := Lib.hid hp
  clear h2 h3 hp hpp H1
  go_wp2_with fail
  refine Hp.out.mono ?_
  rintro e w3 ⟨rfl, h4⟩
  have H4 := Lib.hid h4.p1.drop
  clear h4 Hp
  go_wp2_with fail
  go_loopw [8, 9] (fun gv q wr => ∃ i k : Nat, i ≤ n ∧ k = min i f ∧ q = .int .i64 i ∧ gv = .int .i64 k ∧ Owns w wr [stkA p (rS f k)]) (fun _ q _ => n - (intOf q).toNat)
  case atStart => exact ⟨0, 0, by omega, by omega, rfl, rfl, H4.out⟩
  case round =>
    obtain ⟨i, k, hi, hk, rfl, rfl, h5⟩ := hrel
    have hkf : k ≤ f := by omega
    have hki : k ≤ i := by omega
    have Hk := Lib.hid hk
    have H5 := Lib.hid h5
    clear h5 H4 hk
    by_cases hlt : i < n
    · have hm := mnext H5.out (rS_ok hkf hf)
      by_cases hkk : k = f
      · subst hkk
        rw [rnext_none] at hm
        have hm' : Calls Tryd.prog 11 #[.pointer (some ⟨p, 0, none⟩)] wr (Ret (.tuple #[.int .u8 0, .bool false]) w [stkA p (rS k k)]) := hm
        have Hm := Lib.hid hm'
        clear hm hm'
        go_wp2_with fail
        refine Hm.out.mono ?_
        rintro e w5 ⟨rfl, h6⟩
        have H6 := Lib.hid h6
        clear h6
        go_wp2_with fail
        go_roundw
        case rel => exact ⟨i + 1, k, by omega, by have := Hk.out; omega, by go_num, rfl, H6.out⟩
        case measure => simp [intOf]; omega
      · obtain ⟨c, hc⟩ := rnext (show k < f by omega) hf
        rw [hc] at hm
        have hm' : Calls Tryd.prog 11 #[.pointer (some ⟨p, 0, none⟩)] wr (Ret (.tuple #[.int .u8 c, .bool true]) w [stkA p (rS f (k + 1))]) := hm
        have Hm := Lib.hid hm'
        clear hm hm' hc
        go_wp2_with fail
        refine Hm.out.mono ?_
        rintro e w5 ⟨rfl, h6⟩
        have H6 := Lib.hid h6
        clear h6
        go_wp2_with fail
        go_roundw
        case rel => exact ⟨i + 1, k + 1, by omega, by have := Hk.out; omega, by go_num, by go_num, H6.out⟩
        case measure => simp [intOf]; omega
    · obtain rfl : i = n := by omega
      clear hlt
      have hmin : min (i : Int) (f : Int) = k := by have := Hk.out; omega
      have hle : Calls Tryd.prog 12 #[.pointer (some ⟨p, 0, none⟩)] wr fun e w' => e = .returned (.int .i64 ((f : Int) - k)) ∧ wr = w' := mleft H5.out
      have Hle := Lib.hid hle
      clear hle
      cases drop with
      | true =>
        go_wp2_with fail
        refine Hle.out.mono ?_
        rintro e w5 ⟨rfl, rfl⟩
        go_wp2_with fail
        refine (mdrop H5.out).mono ?_
        rintro e w6 ⟨rfl, h6⟩
        have H6 := Lib.hid h6
        clear h6
        go_wp2_with fail
        refine (mrefuel H6.out).mono ?_
        rintro e w7 ⟨rfl, h7⟩
        have H7 := Lib.hid h7
        clear h7
        have hm := mnext (s := ⟨[], f, f, 3⟩) H7.out (rend1_ok hf)
        rw [rend1] at hm
        have hm' : Calls Tryd.prog 11 #[.pointer (some ⟨p, 0, none⟩)] w7 (Ret (.tuple #[.int .u8 0, .bool false]) w [stkA p ⟨[], f, f, 3⟩]) := hm
        have Hm := Lib.hid hm'
        clear hm hm'
        go_wp2_with fail
        refine Hm.out.mono ?_
        rintro e w8 ⟨rfl, h8⟩
        have hle2 : Calls Tryd.prog 12 #[.pointer (some ⟨p, 0, none⟩)] w8 fun e w' => e = .returned (.int .i64 ((f : Int))) ∧ w8 = w' := mleft h8
        have hdp : Calls Tryd.prog 20 #[.pointer (some ⟨p, 0, none⟩)] w8 fun e w' => e = .returned (.int .i64 0) ∧ w8 = w' := mdeep h8
        have Hle2 := Lib.hid hle2
        have Hdp := Lib.hid hdp
        have Hb1 := Lib.hid (wboolean (w := w8) false)
        have Hb2 := Lib.hid (wboolean (w := w8) false)
        have Hmr := Lib.hid (mreg (l := []) (ka := none) (n := 0) (kc := 0) (by decide) rfl HM.out h8 Reads.nil)
        clear hle2 hdp h8
        go_wp2_with fail
        refine Hle2.out.mono ?_
        rintro e w9 ⟨rfl, rfl⟩
        go_wp2_with fail
        refine Hb1.out.mono ?_
        rintro e w9 ⟨rfl, rfl⟩
        go_wp2_with fail
        refine Hdp.out.mono ?_
        rintro e w9 ⟨rfl, rfl⟩
        go_wp2_with fail
        refine Hb2.out.mono ?_
        rintro e w9 ⟨rfl, rfl⟩
        go_wp2_with fail
        refine Hmr.out.mono ?_
        rintro e w10 ⟨x, rfl, h10⟩
        have h11 := h10.alloc #[.string ⟨#[]⟩] 9
        have hr := hreg (k := 0) (va := .slice x.1 1 x.2) (vb := .slice (some ⟨w10.heap.size, 0, none⟩) 1 1) (A := [⟨#[]⟩]) h11 (Reads.row (e := 9) (List.mem_cons_of_mem _ List.mem_cons_self)) (Reads.obj (b := w10.heap.size) (k := 1) (n := 1) (c := 1) (t := 9) (f := (0, 0)) (cs := #[.string ⟨#[]⟩]) List.mem_cons_self (by decide) (by decide) (by simp))
        have Hr := Lib.hid hr
        clear h10 h11 hr
        rw [show (linesL []).length = 1 from rfl]
        go_wp2_with fail
        refine Hr.out.mono ?_
        rintro e w11 ⟨rfl, h12⟩
        have H12 := Lib.hid h12
        clear h12
        go_wp2_with fail
        go_ret
        exact ⟨rfl, H12.out.below⟩
      | false =>
        go_wp2_with fail
        refine Hle.out.mono ?_
        rintro e w5 ⟨rfl, rfl⟩
        go_wp2_with fail
        refine (mrefuel H5.out).mono ?_
        rintro e w7 ⟨rfl, h7⟩
        have H7 := Lib.hid h7
        clear h7
        by_cases hf0 : f = 0
        · subst hf0
          obtain rfl : k = 0 := by omega
          have hm := mnext (s := ⟨[rF 0], 0, 0, 3⟩) H7.out (rend2_ok (f := 0) (k := 0) (by decide) (by decide))
          rw [rend2] at hm
          have hm' : Calls Tryd.prog 11 #[.pointer (some ⟨p, 0, none⟩)] w7 (Ret (.tuple #[.int .u8 0, .bool false]) w [stkA p ⟨[rF 0], 0, 0, 3⟩]) := hm
          have Hm := Lib.hid hm'
          clear hm hm'
          go_wp2_with fail
          refine Hm.out.mono ?_
          rintro e w8 ⟨rfl, h8⟩
          have hle2 : Calls Tryd.prog 12 #[.pointer (some ⟨p, 0, none⟩)] w8 fun e w' => e = .returned (.int .i64 (0)) ∧ w8 = w' := mleft h8
          have hdp : Calls Tryd.prog 20 #[.pointer (some ⟨p, 0, none⟩)] w8 fun e w' => e = .returned (.int .i64 1) ∧ w8 = w' := mdeep h8
          have Hle2 := Lib.hid hle2
          have Hdp := Lib.hid hdp
          have Hb1 := Lib.hid (wboolean (w := w8) false)
          have Hb2 := Lib.hid (wboolean (w := w8) true)
          have Hmr := Lib.hid (mreg (l := []) (ka := none) (n := 0) (kc := 0) (by decide) rfl HM.out h8 Reads.nil)
          clear hle2 hdp h8
          go_wp2_with fail
          refine Hle2.out.mono ?_
          rintro e w9 ⟨rfl, rfl⟩
          go_wp2_with fail
          refine Hb1.out.mono ?_
          rintro e w9 ⟨rfl, rfl⟩
          go_wp2_with fail
          refine Hdp.out.mono ?_
          rintro e w9 ⟨rfl, rfl⟩
          go_wp2_with fail
          refine Hb2.out.mono ?_
          rintro e w9 ⟨rfl, rfl⟩
          go_wp2_with fail
          refine Hmr.out.mono ?_
          rintro e w10 ⟨x, rfl, h10⟩
          have h11 := h10.alloc #[.string ⟨#[]⟩] 9
          have hr := hreg (k := 0) (va := .slice x.1 1 x.2) (vb := .slice (some ⟨w10.heap.size, 0, none⟩) 1 1) (A := [⟨#[]⟩]) h11 (Reads.row (e := 9) (List.mem_cons_of_mem _ List.mem_cons_self)) (Reads.obj (b := w10.heap.size) (k := 1) (n := 1) (c := 1) (t := 9) (f := (0, 0)) (cs := #[.string ⟨#[]⟩]) List.mem_cons_self (by decide) (by decide) (by simp))
          have Hr := Lib.hid hr
          clear h10 h11 hr
          rw [show (linesL []).length = 1 from rfl]
          go_wp2_with fail
          refine Hr.out.mono ?_
          rintro e w11 ⟨rfl, h12⟩
          have H12 := Lib.hid h12
          clear h12
          go_wp2_with fail
          go_ret
          exact ⟨rfl, H12.out.below⟩
        · obtain ⟨c, s2, hend, hs⟩ := rend3 (show k ≤ 255 by omega) hf0
          have Hs := Lib.hid hs
          have Hend := Lib.hid hend
          clear hs hend
          have hm := mnext (s := ⟨[rF k], f, f, 3⟩) H7.out (rend2_ok hf (by omega))
          rw [Hend.out] at hm
          have hm' : Calls Tryd.prog 11 #[.pointer (some ⟨p, 0, none⟩)] w7 (Ret (.tuple #[.int .u8 c, .bool true]) w [stkA p s2]) := hm
          have Hm := Lib.hid hm'
          clear hm hm'
          go_wp2_with fail
          refine Hm.out.mono ?_
          rintro e w8 ⟨rfl, h8⟩
          have hle2 : Calls Tryd.prog 12 #[.pointer (some ⟨p, 0, none⟩)] w8 fun e w' => e = .returned (.int .i64 ((f : Int) - 1)) ∧ w8 = w' := by have := mleft h8; rw [Hs.out.1] at this; exact this
          have hdp : Calls Tryd.prog 20 #[.pointer (some ⟨p, 0, none⟩)] w8 fun e w' => e = .returned (.int .i64 1) ∧ w8 = w' := by have := mdeep h8; rw [Hs.out.2] at this; exact this
          have Hle2 := Lib.hid hle2
          have Hdp := Lib.hid hdp
          have Hb1 := Lib.hid (wboolean (w := w8) true)
          have Hb2 := Lib.hid (wboolean (w := w8) true)
          have Hmr := Lib.hid (mreg (l := []) (ka := none) (n := 0) (kc := 0) (by decide) rfl HM.out h8 Reads.nil)
          clear hle2 hdp h8
          go_wp2_with fail
          refine Hle2.out.mono ?_
          rintro e w9 ⟨rfl, rfl⟩
          go_wp2_with fail
          refine Hb1.out.mono ?_
          rintro e w9 ⟨rfl, rfl⟩
          go_wp2_with fail
          refine Hdp.out.mono ?_
          rintro e w9 ⟨rfl, rfl⟩
          go_wp2_with fail
          refine Hb2.out.mono ?_
          rintro e w9 ⟨rfl, rfl⟩
          go_wp2_with fail
          refine Hmr.out.mono ?_
          rintro e w10 ⟨x, rfl, h10⟩
          have h11 := h10.alloc #[.string ⟨#[]⟩] 9
          have hr := hreg (k := 0) (va := .slice x.1 1 x.2) (vb := .slice (some ⟨w10.heap.size, 0, none⟩) 1 1) (A := [⟨#[]⟩]) h11 (Reads.row (e := 9) (List.mem_cons_of_mem _ List.mem_cons_self)) (Reads.obj (b := w10.heap.size) (k := 1) (n := 1) (c := 1) (t := 9) (f := (0, 0)) (cs := #[.string ⟨#[]⟩]) List.mem_cons_self (by decide) (by decide) (by simp))
          have Hr := Lib.hid hr
          clear h10 h11 hr
          rw [show (linesL []).length = 1 from rfl]
          go_wp2_with fail
          refine Hr.out.mono ?_
          rintro e w11 ⟨rfl, h12⟩
          have H12 := Lib.hid h12
          clear h12
          go_wp2_with fail
          go_ret
          exact ⟨rfl, H12.out.below⟩
end Go.Proofs.YtkgngcibjkkhkaaDoor
