/- The law MacroDepth on values that read. -/
import Derived.Test.YtkgngcibjkkhkaaDoorMV
import Derived.Test.YtkgngcibjkkhkaaDoorRead
import Derived.Test.YtkgngcibjkkhkaaDoorRows
namespace Go.Proofs.YtkgngcibjkkhkaaDoor
open Go Go.RowKit Go.Fol
attribute [local go_sem ↓] Go.wp_at_zero Go.wp_at_succ
set_option linter.unusedVariables false
set_option linter.unusedSimpArgs false
/-- The frames of the first i pushes. -/
def dL (i : Nat) : List Fr := (List.range i).map fun j : Nat => (⟨[(j : Int), (j : Int)], 1, 0⟩ : Fr)
def dS (d : Nat) (i : Nat) (l : Int) : St := ⟨dL i, 1000, l, d⟩
def dM (d : Nat) (i : Nat) (l : Int) : St := ⟨dL i ++ [⟨[(i : Int), (i : Int)], 1, 1⟩], 1000, l, d⟩
theorem dL_len (i : Nat) : (dL i).length = i := by simp [dL]
theorem dL_succ (i : Nat) : dL (i + 1) = dL i ++ [⟨[(i : Int), (i : Int)], 1, 0⟩] := by simp [dL, List.range_succ]
theorem dfr_ok {i j : Nat} (h : i ≤ 255) (hj : j < 2) : (⟨[(i : Int), (i : Int)], 1, j⟩ : Fr).ok :=
  ⟨by simpa using hj, by show (1 : Int) ≤ 1; decide, by show [(i : Int), (i : Int)].length ≤ 1000; simp, fun x hx => by simp at hx; omega, by show (1 : Int) ≤ _; decide⟩
theorem dS_ok {d i : Nat} {l : Int} (hi : i ≤ d) (hd : d ≤ 8) (h0 : 0 ≤ l) (h1 : l ≤ 1000) : (dS d i l).ok :=
  ⟨fun f hf => by
    obtain ⟨j, hj, rfl⟩ := List.mem_map.1 hf
    have := List.mem_range.1 hj
    exact dfr_ok (by omega) (by decide), by rw [dS, dL_len]; omega, by simp only [dS]; omega, by simp only [dS]; omega, by simp only [dS]; omega⟩
theorem dM_ok {d i : Nat} {l : Int} (hi : i < d) (hd : d ≤ 8) (h0 : 0 ≤ l) (h1 : l ≤ 1000) : (dM d i l).ok :=
  ⟨fun f hf => by
    rcases List.mem_append.1 hf with hf | hf
    · exact (dS_ok (i := i) (by omega) hd h0 h1).fr f hf
    · simp at hf
      subst hf
      exact dfr_ok (by omega) (by decide), by rw [dM, List.length_append, dL_len]; simp; omega, by simp only [dM]; omega, by simp only [dM]; omega, by simp only [dM]; omega⟩
theorem dpush {d i : Nat} {l : Int} (hi : i < d) : pushF (dS d i l) [(i : Int), (i : Int)] 1 = (true, dS d (i + 1) l) := by
  unfold pushF
  rw [if_neg (by simp), if_neg (by simp only [dS, dL_len]; omega), dS, dS, dL_succ]
theorem dpush_full {d : Nat} {l : Int} (K : List Int) (hK : K ≠ []) : pushF (dS d d l) K 1 = (false, dS d d l) := by
  unfold pushF
  rw [if_neg (by simp [hK]), if_pos (by simp only [dS, dL_len]; omega)]
theorem dpush_none {s : St} {n : Int} : pushF s [] n = (true, s) := by simp [pushF]
theorem dpush_zero {s : St} {K : List Int} : pushF s K 0 = (true, s) := by simp [pushF]
theorem dnext1 {d i : Nat} {l : Int} (h : l ≠ 0) : nextF (dS d (i + 1) l) = some ((i : Int), dM d i (l - 1)) := by
  simp only [nextF, dS, dL_succ, List.getLast?_concat, List.dropLast_concat, if_neg h]
  simp [popL, stepFr, dM]
theorem dnext2 {d i : Nat} {l : Int} (h : l ≠ 0) : nextF (dM d i l) = some ((i : Int), dS d i (l - 1)) := by
  simp only [nextF, dM, List.getLast?_concat, List.dropLast_concat, if_neg h]
  simp [popL, stepFr, dS]
theorem dnext0 {d : Nat} {l : Int} : nextF (dS d 0 l) = none := rfl
theorem dpush_last {d : Nat} {l n : Int} (hd : 1 ≤ d) (hn : 1 ≤ n) : ∃ s', pushF (dS d 0 l) [1] n = (true, s') := by
  unfold pushF
  rw [if_neg (by simp; omega), if_neg (by simp only [dS, dL_len]; omega)]
  exact ⟨_, rfl⟩
set_option maxHeartbeats 4000000 in
set_option maxRecDepth 100000 in
theorem macroDepth_walk (w : World) (v0 v1 : Value) (a0 : Arg Tryd.prog w 5 v0) (a1 : Arg Tryd.prog w 5 v1) (hL : laidMetH Tryd.prog Rows.macroDepthRow.laid w) (hS : w.ShapedOpen Tryd.prog) :
    Calls Tryd.prog 5 #[v0, v1] w fun e w' => e = .returned (.bool true) ∧ Below w.heap.size w w' := by
  obtain ⟨de, rfl, hde⟩ := arg_int Tryd.underlying5 a0
  obtain ⟨n, rfl, hn⟩ := arg_int Tryd.underlying5 a1
  obtain ⟨hde0, hde1⟩ := wf_u8 hde
  obtain ⟨hn0, hn1⟩ := wf_u8 hn
  have HM : Hid (MaxInt w) := Lib.hid (maxInt_of hS)
  obtain ⟨d, hd⟩ : ∃ d : Nat, de % 8 + 1 = d := ⟨(de % 8 + 1).toNat, by omega⟩
  have hd1 : 1 ≤ d := by omega
  have hd8 : d ≤ 8 := by omega
  have Hd := Lib.hid hd
  clear a0 a1 hL hS hde hn
  go_enter Tryd.func5, Tryd.ntmps5
  go_wp2_with fail
  refine (known_true HM.out (Owns.start w)).mono ?_
  rintro e w1 ⟨rfl, h1⟩
  have H1 := Lib.hid h1
  clear h1 HM
  clear hd
  go_wp2_with fail
  rw [Hd.out]
  refine (mnew 1000 d H1.out).mono ?_
  rintro e w2 ⟨p, rfl, h2⟩
  rw [show newS 1000 d = dS d 0 1000 by simp [newS, dS, dL]; decide] at h2
  have H2 := Lib.hid h2
  clear h2 H1
  go_wp2_with fail
  go_loopw [7] (fun q wr => ∃ i : Nat, i ≤ d ∧ q = .int .i64 i ∧ Owns w wr [stkA p (dS d i 1000)]) (fun q _ => 8 - (intOf q).toNat)
  case atStart => exact ⟨0, by omega, rfl, H2.out⟩
  case round =>
    obtain ⟨i, hi, rfl, h3⟩ := hrel
    have H3 := Lib.hid h3
    clear h3 H2
    by_cases hlt : i < d
    · have hu : IntKind.u8.wrap (i : Int) = i := by rw [IntKind.wrap_u8]; omega
      have h4 := H3.out.allocO (.cells #[.int .u8 i, .int .u8 i] 5 (0, 0))
      have hp := mpush (K := [(i : Int), (i : Int)]) (ka := some ⟨wr.heap.size, 0, none⟩) (kc := 2) (n := 1) h4.p1 (dS_ok (by omega) hd8 (by decide) (by decide)) (Reads.obj (b := wr.heap.size) (k := 1) (n := 2) (c := 2) (t := 5) (f := (0, 0)) (cs := #[.int .u8 i, .int .u8 i]) List.mem_cons_self (by decide) (by decide) (by simp)) (by simp) (dpush hlt)
      have Hp := Lib.hid hp
      clear h4 hp
      go_wp2_with fail
      refine Hp.out.mono ?_
      rintro e w3 ⟨rfl, h5⟩
      have h6 := h5.p1.drop
      have hdp := mdeep h6
      rw [show ((dS d (i + 1) 1000).L.length : Int) = (i : Int) + 1 by simp only [dS, dL_len]; omega] at hdp
      have Hdp := Lib.hid hdp
      have H6 := Lib.hid h6
      clear h5 h6 hdp Hp H3
      go_wp2_with fail
      refine Hdp.out.mono ?_
      rintro e w4 ⟨rfl, rfl⟩
      go_wp2_with fail
      go_roundw
      case rel => exact ⟨i + 1, by omega, by go_num, H6.out⟩
      case measure => simp [intOf]; omega
    · obtain rfl : i = d := by omega
      clear hlt
      have h4 := H3.out.allocO (.cells #[.int .u8 9] 5 (0, 0))
      have hp := mpush (K := [9]) (ka := some ⟨wr.heap.size, 0, none⟩) (kc := 1) (n := 1) h4.p1 (dS_ok (by omega) hd8 (by decide) (by decide)) (Reads.obj (b := wr.heap.size) (k := 1) (n := 1) (c := 1) (t := 5) (f := (0, 0)) (cs := #[.int .u8 9]) List.mem_cons_self (by decide) (by decide) (by simp)) (by decide) (dpush_full [9] (by simp))
      have Hp := Lib.hid hp
      clear h4 hp H3
      go_wp2_with fail
      refine Hp.out.mono ?_
      rintro e w3 ⟨rfl, h5⟩
      have hp := mpush (K := []) (ka := none) (kc := 0) (n := 5) h5 (dS_ok (by omega) hd8 (by decide) (by decide)) Reads.nil (by decide) dpush_none
      have Hp2 := Lib.hid hp
      clear h5 hp Hp
      go_wp2_with fail
      refine Hp2.out.mono ?_
      rintro e w4 ⟨rfl, h6⟩
      have h7 := h6.p1.drop.allocO (.cells #[.int .u8 1] 5 (0, 0))
      have hp := mpush (K := [1]) (ka := some ⟨w4.heap.size, 0, none⟩) (kc := 1) (n := 0) h7.p1 (dS_ok (by omega) hd8 (by decide) (by decide)) (Reads.obj (b := w4.heap.size) (k := 1) (n := 1) (c := 1) (t := 5) (f := (0, 0)) (cs := #[.int .u8 1]) List.mem_cons_self (by decide) (by decide) (by simp)) (by decide) dpush_zero
      have Hp3 := Lib.hid hp
      clear h6 h7 hp Hp2
      go_wp2_with fail
      refine Hp3.out.mono ?_
      rintro e w5 ⟨rfl, h8⟩
      have H8 := Lib.hid h8.p1.drop
      clear h8 Hp3
      go_wp2_with fail
      go_loopw [8] (fun q wr => ∃ j : Nat, j ≤ i ∧ q = .int .i64 ((j : Int) - 1) ∧ Owns w wr [stkA p (dS i j (1000 - 2 * ((i : Int) - j)))]) (fun q _ => (intOf q + 1).toNat)
      case atStart => exact ⟨i, by omega, rfl, by have := H8.out; rw [show (1000 : Int) - 2 * ((i : Int) - i) = 1000 by omega]; exact this⟩
      case round =>
        obtain ⟨j, hj, rfl, h9⟩ := hrel
        obtain ⟨l, hl⟩ : ∃ l : Int, 1000 - 2 * ((i : Int) - j) = l := ⟨_, rfl⟩
        rw [hl] at h9
        have Hl := Lib.hid hl
        clear H8
        by_cases hj0 : j = 0
        · subst hj0
          have hm := mnext h9 (dS_ok (by omega) hd8 (by omega) (by omega))
          rw [dnext0] at hm
          have hm' : Calls Tryd.prog 11 #[.pointer (some ⟨p, 0, none⟩)] wr (Ret (.tuple #[.int .u8 0, .bool false]) w [stkA p (dS i 0 l)]) := hm
          have Hm := Lib.hid hm'
          clear hm hm' h9 hl
          go_wp2_with fail
          refine Hm.out.mono ?_
          rintro e w6 ⟨rfl, h10⟩
          have hle : Calls Tryd.prog 12 #[.pointer (some ⟨p, 0, none⟩)] w6 fun e w' => e = .returned (.int .i64 (1000 - 2 * (i : Int))) ∧ w6 = w' := by
            have := mleft h10
            rw [show (dS i 0 l).left = 1000 - 2 * (i : Int) by have := Hl.out; show l = _; omega] at this
            exact this
          have h11 := h10.allocO (.cells #[.int .u8 1] 5 (0, 0))
          obtain ⟨s', hs'⟩ := dpush_last (d := i) (l := l) (n := n + 1) hd1 (by omega)
          have hl0 : 0 ≤ l ∧ l ≤ 1000 := by have := Hl.out; omega
          have hp := mpush (K := [1]) (ka := some ⟨w6.heap.size, 0, none⟩) (kc := 1) (n := n + 1) h11.p1 (dS_ok (by omega) hd8 hl0.1 hl0.2) (Reads.obj (b := w6.heap.size) (k := 1) (n := 1) (c := 1) (t := 5) (f := (0, 0)) (cs := #[.int .u8 1]) List.mem_cons_self (by decide) (by decide) (by simp)) (by decide) hs'
          have Hle := Lib.hid hle
          have Hp4 := Lib.hid hp
          clear h10 h11 hle hp hs' hl0 Hm
          go_wp2_with fail
          refine Hle.out.mono ?_
          rintro e w7 ⟨rfl, rfl⟩
          go_wp2_with fail
          refine Hp4.out.mono ?_
          rintro e w8 ⟨rfl, h12⟩
          have H12 := Lib.hid h12
          clear h12 Hp4 Hle
          go_wp2_with fail
          go_ret
          exact ⟨rfl, H12.out.below⟩
        · obtain ⟨q, rfl⟩ : ∃ q, j = q + 1 := ⟨j - 1, by omega⟩
          have hl0 : 10 ≤ l ∧ l ≤ 1000 := by omega
          obtain ⟨hl1, hl2⟩ := hl0
          have hm := mnext h9 (dS_ok (by omega) hd8 (by omega) (by omega))
          rw [dnext1 (by omega)] at hm
          have hm' : Calls Tryd.prog 11 #[.pointer (some ⟨p, 0, none⟩)] wr (Ret (.tuple #[.int .u8 q, .bool true]) w [stkA p (dM i q (l - 1))]) := hm
          have Hm := Lib.hid hm'
          have hq1 : ((q + 1 : Nat) : Int) - 1 = q := by omega
          have hu : IntKind.u8.wrap (q : Int) = q := by rw [IntKind.wrap_u8]; omega
          rw [hq1]
          clear hm hm' h9 hl hq1 hj0
          go_wp2_with fail
          refine Hm.out.mono ?_
          rintro e w6 ⟨rfl, h10⟩
          have hdp := mdeep h10
          rw [show ((dM i q (l - 1)).L.length : Int) = (q : Int) + 1 by simp only [dM, List.length_append, dL_len]; simp] at hdp
          have Hdp := Lib.hid hdp
          have hm := mnext h10 (dM_ok (by omega) hd8 (by omega) (by omega))
          rw [dnext2 (by omega)] at hm
          have hm' : Calls Tryd.prog 11 #[.pointer (some ⟨p, 0, none⟩)] w6 (Ret (.tuple #[.int .u8 q, .bool true]) w [stkA p (dS i q (l - 1 - 1))]) := hm
          have Hm2 := Lib.hid hm'
          clear hdp hm hm' h10 Hm
          go_wp2_with fail
          refine Hdp.out.mono ?_
          rintro e w7 ⟨rfl, rfl⟩
          go_wp2_with fail
          refine Hm2.out.mono ?_
          rintro e w7 ⟨rfl, h11⟩
          have hdp := mdeep h11
          rw [show ((dS i q (l - 1 - 1)).L.length : Int) = (q : Int) by simp only [dS, dL_len]] at hdp
          have Hdp2 := Lib.hid hdp
          have H11 := Lib.hid h11
          clear hdp h11 Hdp Hm2
          go_wp2_with fail
          refine Hdp2.out.mono ?_
          rintro e w8 ⟨rfl, rfl⟩
          go_wp2_with fail
          go_roundw
          case rel => exact ⟨q, by omega, by go_num, by have := H11.out; rw [show l - 1 - 1 = 1000 - 2 * ((i : Int) - q) by have := Hl.out; omega] at this; exact this⟩
          case measure => simp [intOf]
end Go.Proofs.YtkgngcibjkkhkaaDoor
