/- The example of the laws on stacks. -/
import Derived.Test.YtkgngcibjkkhkaaDoorMK
namespace Go.Proofs.YtkgngcibjkkhkaaDoor
open Go Go.RowKit Go.Fol
attribute [local go_sem ↓] Go.wp_at_zero Go.wp_at_succ
set_option linter.unusedVariables false
set_option linter.unusedSimpArgs false
attribute [-go_sem] run_string_add_if
/-- Keys played, and what was played. -/
def kgo (s : St) : Nat → St × List UInt8
  | 0 => (s, [])
  | i + 1 => match nextF (kgo s i).1 with
    | some (c, s') => (s', (kgo s i).2 ++ [UInt8.ofNat c.toNat])
    | none => kgo s i
theorem kgo_ok {s : St} (h : s.ok) : ∀ i, (kgo s i).1.ok
  | 0 => h
  | i + 1 => by
    unfold kgo
    split
    · rename_i hn
      exact (next_ok (kgo_ok h i) hn).1
    · exact kgo_ok h i
theorem kgo_len (s : St) : ∀ i, (kgo s i).2.length ≤ i
  | 0 => Nat.le_refl _
  | i + 1 => by
    have := kgo_len s i
    unfold kgo
    split
    · simp; omega
    · omega
def kst0 : St := (pushF (newS 10 1) [97, 98] 2).2
theorem kst0_push1 : pushF (newS 10 1) [97, 98] 2 = (true, kst0) := rfl
theorem kst0_push2 : pushF kst0 [99] 1 = (false, kst0) := rfl
theorem kst0_ok : kst0.ok := push_ok (new_ok (by decide) (by decide)) (by decide) (fun x hx => by simp at hx; omega) (by decide)
theorem kgo_end : kgo kst0 6 = (⟨[], 10, 6, 1⟩, [97, 98, 97, 98]) := by rfl
section
variable {w0 w : World} {R : List Asrt}
/-- string([]byte{c}), the byte just laid. -/
theorem conv_one {b : Nat} {c : Int} (h0 : 0 ≤ c) (h1 : c ≤ 255) (H : Owns w0 w (Asrt.obj b (.cells #[.int .u8 c] 5 (0, 0)) :: R)) :
    (convert 22 9 (.slice (some ⟨b, 0, none⟩) 1 1)).run Tryd.prog w = .ok (.string (bs [UInt8.ofNat c.toNat])) w :=
  run_bytes_str Tryd.underlying22 Tryd.underlying5 Tryd.underlying9 (l := [UInt8.ofNat c.toNat]) (n := 1) (by
    have h := Reads.obj (w0 := w0) (R := Asrt.obj b (.cells #[.int .u8 c] 5 (0, 0)) :: R) (k := 1) (n := 1) (c := 1) List.mem_cons_self (by decide) (by decide) (by simp) w H
    have e : (#[Value.int .u8 c] : Array Value).toList.take (1 * 1) = kints .u8 (bn [UInt8.ofNat c.toNat]) := by simp [kints, bn]; omega
    rw [e] at h
    exact h)
set_option maxRecDepth 100000 in
set_option maxHeartbeats 4000000 in
theorem known_true (hM : MaxInt w0) (H : Owns w0 w R) : Calls Tryd.prog 8 #[] w (Ret (.bool true) w0 R) := by
  have HH := Lib.hid H
  have HM := Lib.hid hM
  have kc := fun (w : World) (C : Array Value) (n c : Nat) => Lib.run_convert_bytes_const (P := Tryd.prog) w 22 5 C n c Tryd.underlying22 Tryd.underlying5
  clear H hM
  go_enter Tryd.func8, Tryd.ntmps8
  go_wp2_with fail
  refine (mnew 10 1 HH.out).mono ?_
  rintro e w1 ⟨p, rfl, h1⟩
  have h2 := h1.allocO (.cells #[.int .u8 97, .int .u8 98] 5 (2, 3))
  have hp := mpush (K := [97, 98]) (ka := some ⟨w1.heap.size, 0, none⟩) (kc := 2) (n := 2) h2.p1 (new_ok (by decide) (by decide)) (Reads.obj (b := w1.heap.size) (k := 1) (n := 2) (c := 2) (t := 5) (f := (2, 3)) (cs := #[.int .u8 97, .int .u8 98]) List.mem_cons_self (by decide) (by decide) (by simp)) (by decide) kst0_push1
  have Hp := Lib.hid hp
  clear h1 h2 hp HH
  go_wp2_with fail
  refine Hp.out.mono ?_
  rintro e w2 ⟨rfl, h3⟩
  have h4 := (h3.p1.drop).allocO (.cells #[.int .u8 99] 5 (1, 2))
  have hp := mpush (K := [99]) (ka := some ⟨w2.heap.size, 0, none⟩) (kc := 1) (n := 1) h4.p1 kst0_ok (Reads.obj (b := w2.heap.size) (k := 1) (n := 1) (c := 1) (t := 5) (f := (1, 2)) (cs := #[.int .u8 99]) List.mem_cons_self (by decide) (by decide) (by simp)) (by decide) kst0_push2
  have Hp2 := Lib.hid hp
  clear h3 h4 hp Hp
  go_wp2_with fail
  refine Hp2.out.mono ?_
  rintro e w3 ⟨rfl, h5⟩
  have H5 := Lib.hid (h5.p1.drop)
  clear h5 Hp2
  go_wp2_with fail
  go_loopw [2, 3] (fun gv q wr => ∃ (i : Nat) (st : St) (G : List UInt8), i ≤ 6 ∧ q = .int .i64 i ∧ kgo kst0 i = (st, G) ∧ gv = .string (bs G) ∧ Owns w0 wr (stkA p st :: R)) (fun _ q _ => 6 - (intOf q).toNat)
  case atStart => exact ⟨0, kst0, [], by decide, rfl, rfl, rfl, H5.out⟩
  case round =>
    obtain ⟨i, st, G, hi, rfl, hkg, rfl, h6⟩ := hrel
    have hok : st.ok := by have := kgo_ok kst0_ok i; rw [hkg] at this; exact this
    have hlen : G.length ≤ i := by have := kgo_len kst0 i; rw [hkg] at this; exact this
    have H6 := Lib.hid h6
    have Hkg := Lib.hid hkg
    have Hok := Lib.hid hok
    clear h6 hkg hok H5
    by_cases hlt : i < 6
    · cases hn : nextF st with
      | none =>
        have hm := mnext H6.out Hok.out
        rw [hn] at hm
        have hm' : Calls Tryd.prog 11 #[.pointer (some ⟨p, 0, none⟩)] wr (Ret (.tuple #[.int .u8 0, .bool false]) w0 (stkA p st :: R)) := hm
        have Hm := Lib.hid hm'
        have hst : kgo kst0 (i + 1) = (st, G) := by rw [kgo, Hkg.out, hn]
        have Hst := Lib.hid hst
        clear hm hm' hn hst
        go_wp2_with fail
        refine Hm.out.mono ?_
        rintro e w4 ⟨rfl, h7⟩
        have H7 := Lib.hid h7
        clear h7 Hm
        go_wp2_with fail
        go_roundw
        case rel => exact ⟨i + 1, st, G, by omega, by go_num, Hst.out, rfl, H7.out⟩
        case measure => simp [intOf]; omega
      | some x =>
        obtain ⟨c, st'⟩ := x
        obtain ⟨_, hc0, hc1⟩ := next_ok Hok.out hn
        have hm := mnext H6.out Hok.out
        rw [hn] at hm
        have hm' : Calls Tryd.prog 11 #[.pointer (some ⟨p, 0, none⟩)] wr (Ret (.tuple #[.int .u8 c, .bool true]) w0 (stkA p st' :: R)) := hm
        have Hm := Lib.hid hm'
        have hst : kgo kst0 (i + 1) = (st', G ++ [UInt8.ofNat c.toNat]) := by rw [kgo, Hkg.out, hn]
        have Hst := Lib.hid hst
        have hcat : ∀ w, (Op.stringOp .add (bs G) (bs [UInt8.ofNat c.toNat])).run Tryd.prog w = .ok (.string (bs (G ++ [UInt8.ofNat c.toNat]))) w := fun w => run_bs_cat (by simp; omega) w
        clear hm hm' hn hst
        go_wp2_with fail
        refine Hm.out.mono ?_
        rintro e w4 ⟨rfl, h7⟩
        have h8 := h7.alloc #[.int .u8 c] 5
        have hcv := conv_one hc0 hc1 h8
        have H8 := Lib.hid h8.drop
        clear h7 h8 Hm
        go_wp2_with fail
        go_roundw
        case rel => exact ⟨i + 1, st', _, by omega, by go_num, Hst.out, rfl, H8.out⟩
        case measure => simp [intOf]; omega
    · obtain rfl : i = 6 := by omega
      have hkg := Hkg.out
      rw [kgo_end] at hkg
      obtain ⟨rfl, rfl⟩ : st = ⟨[], 10, 6, 1⟩ ∧ G = [97, 98, 97, 98] := by cases hkg; exact ⟨rfl, rfl⟩
      have hb1 : (bs [97, 98, 97, 98]).toList = [97, 98, 97, 98] := bs_toList _
      have hleft : Calls Tryd.prog 12 #[.pointer (some ⟨p, 0, none⟩)] wr fun e w' => e = .returned (.int .i64 6) ∧ wr = w' := mleft H6.out
      have hdeep : Calls Tryd.prog 20 #[.pointer (some ⟨p, 0, none⟩)] wr fun e w' => e = .returned (.int .i64 0) ∧ wr = w' := mdeep H6.out
      have hdry : Calls Tryd.prog 13 #[.pointer (some ⟨p, 0, none⟩)] wr fun e w' => e = .returned (.bool false) ∧ wr = w' := mdry H6.out
      have Hleft := Lib.hid hleft
      have Hdeep := Lib.hid hdeep
      have Hdry := Lib.hid hdry
      have h7 := H6.out.alloc #[.string ⟨#[97]⟩] 9
      have hkeys := mkeys (k := 1) (a := some ⟨wr.heap.size, 0, none⟩) (c := 1) (L := [[97]]) h7 (Reads.obj (b := wr.heap.size) (k := 1) (n := 1) (c := 1) (t := 9) (f := (0, 0)) (cs := #[.string ⟨#[97]⟩]) List.mem_cons_self (by decide) (by decide) (by simp)) (by decide) (by decide)
      have Hkeys := Lib.hid hkeys
      clear hkg hlt hleft hdeep hdry h7 hkeys
      go_wp2_with (first | (go_at_call 12; refine Hleft.out.mono ?_; rintro e w' ⟨rfl, rfl⟩) | (go_at_call 20; refine Hdeep.out.mono ?_; rintro e w' ⟨rfl, rfl⟩) | (go_at_call 13; refine Hdry.out.mono ?_; rintro e w' ⟨rfl, rfl⟩) | fail)
      refine Hkeys.out.mono ?_
      rintro e w5 ⟨v, rfl, h8⟩
      obtain ⟨a, c, rfl⟩ := h8.src.form
      rw [show (keysL 1 [[97]]).length = 2 from rfl] at h8 ⊢
      have hcv : (convert 22 9 (.slice a 2 c)).run Tryd.prog w5 = .ok (.string (bs [97, 10])) w5 :=
        run_bytes_str (n := 2) Tryd.underlying22 Tryd.underlying5 Tryd.underlying9 h8.src
      have hb2 : (bs [97, 10]).toList = [97, 10] := bs_toList _
      have h9 := (h8.drop).allocO (.cells #[.int .u8 97, .int .u8 10, .int .u8 98] 5 (3, 4))
      have hreg := mreg (ka := some ⟨w5.heap.size, 0, none⟩) (kc := 3) (n := 3) (l := [97, 10, 98]) (by decide) rfl HM.out h9 (Reads.obj (b := w5.heap.size) (k := 1) (n := 3) (c := 3) (t := 5) (f := (3, 4)) (cs := #[.int .u8 97, .int .u8 10, .int .u8 98]) List.mem_cons_self (by decide) (by decide) (by simp))
      have hll : (linesL [97, 10, 98]).length = 2 := rfl
      rw [hll] at hreg
      have Hreg := Lib.hid hreg
      clear h8 h9 hreg hll Hkeys
      go_wp2_with fail
      refine Hreg.out.mono ?_
      rintro e w6 ⟨⟨xa, xc⟩, rfl, h10⟩
      dsimp only at h10 ⊢
      have hfield : ∀ w, (Instr.field 33 (.agg #[.int .i64 0, .slice xa 2 xc]) 1).run Tryd.prog w = .ok (.slice xa 2 xc) w := fun _ => by kernel_rfl
      have H10 := Lib.hid h10
      clear h10 Hreg
      go_wp2_with fail
      go_ret
      exact ⟨rfl, H10.out.drop.drop.drop.drop⟩
end
end Go.Proofs.YtkgngcibjkkhkaaDoor
