/- Digits of numbers; the example of the laws on keys. -/
import Derived.Test.YtlehgghidcaodaaDoorKB
import Derived.Test.YtlehgghidcaodaaDoorLaid
import Derived.Test.YtlehgghidcaodaaDoorRows
namespace Go.Proofs.YtlehgghidcaodaaDoor
open Go Go.RowKit Go.Fol
attribute [local go_sem ↓] Go.wp_at_zero Go.wp_at_succ
set_option linter.unusedVariables false
set_option linter.unusedSimpArgs false
/-- Go's table of powers of ten. -/
abbrev Pow10 (w : World) : Prop := Lib.TabIs Tryd.prog w "internal/strconv.uint64pow10" .u64 Lib.pow10Tab
theorem gPow : Tryd.prog.globalNamed "internal/strconv.uint64pow10" = some 0 := by kernel_rfl
theorem pow10_of {w : World} (h : laidMetH Tryd.prog Rows.keysBackRow.laid w) : Pow10 w := by
  obtain ⟨ps, h, _⟩ : laidMet Tryd.prog Rows.keysBackRow.laid w := h
  obtain ⟨_, h⟩ := laid_tail h
  obtain ⟨_, h⟩ := laid_tail h
  exact laid_head (n := 20) gPow (by kernel_rfl) Tryd.underlying59 Tryd.underlying52 (by kernel_rfl) (by kernel_rfl) h
theorem dec_len : ∀ (k n : Nat), n < 10 ^ (k + 1) → (Lib.decDigits n).length ≤ k + 1 := by
  intro k
  induction k with
  | zero => intro n h; rw [Lib.decDigits, dif_pos (by simpa using h)]; simp
  | succ k ih =>
    intro n h
    rw [Lib.decDigits]
    split
    · simp
    · have := ih (n / 10) (by rw [Nat.div_lt_iff_lt_mul (by decide)]; rw [Nat.pow_succ] at h; exact h)
      rw [List.length_append, List.length_singleton]
      omega
section
variable {w0 w : World} {R : List Asrt}
/-- The digits of a number, as text. -/
def digL (n : Int) : List UInt8 := Lib.decDigits n.toNat
attribute [local go_sem ↓] run_min2 run_max2
set_option maxHeartbeats 1000000 in
theorem kdigits {n : Int} (h0 : -9223372036854775808 ≤ n) (h1 : n ≤ 9223372036854775807) (hT : Pow10 w) (H : Owns w0 w R) :
    Calls Tryd.prog 14 #[.int .i64 n] w (RetX (fun v : Value => v) w0 (fun v => bsrcL v (digL n) :: R)) := by
  obtain ⟨m, hm⟩ : ∃ m, m = max n 0 := ⟨_, rfl⟩
  have hmd : Lib.itoa m = digL n := by
    unfold Lib.itoa digL
    rw [if_neg (by omega)]
    congr 1
    omega
  have hit := Tryd.strconv_Itoa m (by omega) (by omega) w hT
  rw [hmd] at hit
  have hlen : (digL n).length ≤ 1000000 := by
    have := dec_len 18 n.toNat (by omega)
    unfold digL
    omega
  have HH := Lib.hid H
  have Hit := Lib.hid hit
  have Hm := Lib.hid hm
  clear H hit hmd
  go_enter Tryd.func14, Tryd.ntmps14
  go_wp2_with fail
  rw [← Hm.out]
  refine Hit.out.mono ?_
  rintro e w1 ⟨rfl, k, os, hw⟩
  have h2 : Owns w0 w1 R := HH.out.quiet (by rw [hw]; exact grow_chg _ _ _)
  obtain ⟨v, w3, hrun, h3⟩ := Owns.bytesOf (P := Tryd.prog) (tS := 9) (tB := 22) (tb := 5) Tryd.underlying22 Tryd.underlying5 Tryd.underlying9 hlen h2
  rw [bs] at hrun
  have H3 := Lib.hid h3
  clear h2 h3 hw hm
  go_wp2_with fail
  go_ret
  exact ⟨v, rfl, H3.out⟩
theorem digL_small {n : Int} (h : n < 10) : digL n = [UInt8.ofNat (48 + n.toNat)] := by
  unfold digL
  rw [Lib.decDigits, dif_pos (by omega)]
theorem digL_big {n : Int} (h : 10 ≤ n) : digL n = digL (n / 10) ++ [UInt8.ofNat (48 + (n % 10).toNat)] := by
  unfold digL
  rw [Lib.decDigits, dif_neg (by omega)]
  congr 3 <;> omega
set_option maxHeartbeats 1000000 in
theorem wdigits : ∀ (k : Nat) {n : Int} {w : World} {R : List Asrt}, n < 10 ^ (k + 1) → -9223372036854775808 ≤ n → n ≤ 9223372036854775807 → k ≤ 18 → Owns w0 w R →
    Calls Tryd.prog 15 #[.int .i64 n] w (RetX (fun v : Value => v) w0 (fun v => lrow v (digL n) :: R)) := by
  intro k
  have small : ∀ {n : Int} {w : World} {R : List Asrt}, n < 10 → -9223372036854775808 ≤ n → Owns w0 w R → Calls Tryd.prog 15 #[.int .i64 n] w (RetX (fun v : Value => v) w0 (fun v => lrow v (digL n) :: R)) := by
    intro n w R hn hlo H
    obtain ⟨m, hm⟩ : ∃ m, m = max n 0 := ⟨_, rfl⟩
    have hm0 : 0 ≤ m := by omega
    have hm9 : m ≤ 9 := by omega
    have h1 := H.alloc #[.int .u8 (48 + m)] 5
    have h2 := h1.rowOf (e := 5) (k := 1) 1 1 (by decide) (by decide) (by simp)
    have e : (#[Value.int .u8 (48 + m)] : Array Value).toList.take (1 * 1) = kints .u8 (bn (digL n)) := by
      rw [digL_small hn]
      simp [kints, bn]
      omega
    have e1 : (digL n).length = 1 := by rw [digL_small hn]; rfl
    rw [e] at h2
    have H2 := Lib.hid (show Owns w0 _ (lrow (.slice (some ⟨w.heap.size, 0, none⟩) 1 1) (digL n) :: R) by rw [lrow, e1]; exact h2)
    have Hm := Lib.hid hm
    clear H h1 h2 e e1 hm
    go_enter Tryd.func15, Tryd.ntmps15
    go_wp2_with fail
    go_ret
    exact ⟨_, rfl, by rw [← Hm.out]; exact H2.out⟩
  induction k with
  | zero => intro n w R h hlo hhi _ H; exact small (by simpa using h) hlo H
  | succ k ih =>
    intro n w R h hlo hhi hk H
    by_cases hn : n < 10
    · exact small hn hlo H
    · have hq0 : 0 ≤ n / 10 := by omega
      have hq : n / 10 < 10 ^ (k + 1) := by
        rw [Int.pow_succ] at h
        omega
      have hm0 : 0 ≤ n % 10 := by omega
      have hm9 : n % 10 ≤ 9 := by omega
      have hrec := ih (n := n / 10) hq (by omega) (by omega) (by omega) H
      have hb := digL_big (n := n) (by omega)
      have hdl : (digL (n / 10)).length ≤ 1000 := by
        have := dec_len 18 (n / 10).toNat (by omega)
        unfold digL
        omega
      have Hrec := Lib.hid hrec
      have Hb := Lib.hid hb
      clear H hrec ih small h hq hb
      go_enter Tryd.func15, Tryd.ntmps15
      go_wp2_with fail
      refine Hrec.out.mono ?_
      rintro e w1 ⟨v, rfl, h1⟩
      obtain ⟨a, c, rfl⟩ := row_slice h1.row
      obtain ⟨v', w', hrn, h2⟩ := app_byte (x := .slice (some ⟨w1.heap.size, 0, none⟩) 1 1) (m := 1) (vs := [.int .u8 (48 + n % 10)]) ((h1.alloc #[.int .u8 (48 + n % 10)] 5).p1) (Reads.obj (b := w1.heap.size) (k := 1) (n := 1) (t := 5) (f := (0, 0)) (cs := #[.int .u8 (48 + n % 10)]) List.mem_cons_self (by decide) (by decide) (by simp)) (by simp [Value.oneCell']) (by unfold maxLen; omega) (by omega)
      have e : kints .u8 (bn (digL (n / 10))) ++ [Value.int .u8 (48 + n % 10)] = kints .u8 (bn (digL n)) := by
        rw [Hb.out]
        simp [kints, bn]
        omega
      have e1 : (digL (n / 10)).length + 1 = (digL n).length := by rw [Hb.out]; simp
      rw [e, e1] at h2
      have H2 := Lib.hid (h2.p1.drop)
      clear h1 h2 e e1 Hrec
      go_wp2_with (at_builtin; refine Lib.wpList_append_run _ rfl _ _ _ _ rfl _ _ rfl rfl _ _ (hrn _) ?_)
      go_ret
      exact ⟨_, rfl, H2.out⟩
theorem kp1 : parseF [97, 60, 69, 115, 99, 62, 60, 108, 116, 62] = some [97, 27, 60] := by decide +kernel
theorem kp2 : parseF [60, 110, 111, 112, 101, 62] = none := by decide +kernel
set_option maxHeartbeats 1000000 in
theorem known_true (hT : Pow10 w0) (H : Owns w0 w R) : Calls Tryd.prog 7 #[] w (Ret (.bool true) w0 R) := by
  have HH := Lib.hid H
  have HT := Lib.hid hT
  clear H hT
  go_enter Tryd.func7, Tryd.ntmps7
  go_wp2_with fail
  refine (kparse (s := [97, 60, 69, 115, 99, 62, 60, 108, 116, 62]) (by decide) HH.out).mono ?_
  rintro e w1 (⟨hc, _⟩ | ⟨K, v, hK, rfl, h1⟩)
  · rw [kp1] at hc; cases hc
  rw [kp1] at hK
  obtain rfl := Option.some.inj hK
  obtain ⟨a, c, rfl⟩ := row_slice h1.row
  have H1 := Lib.hid h1
  clear h1 hK HH
  go_wp2_with fail
  refine (kparse (s := [60, 110, 111, 112, 101, 62]) (by decide) H1.out).mono ?_
  rintro e w2 (⟨hc, rfl, h2⟩ | ⟨K, v, hK, _⟩)
  rotate_left
  · rw [kp2] at hK; cases hK
  have h3 := h2.alloc #[.int .u8 27] 5
  have ht := ktext (K := [27]) (v := .slice (some ⟨w2.heap.size, 0, none⟩) 1 1) (fun x hx => by simp at hx; omega) (by decide) h3 (Reads.obj (b := w2.heap.size) (k := 1) (n := 1) (t := 5) (f := (0, 0)) (cs := #[.int .u8 27]) List.mem_cons_self (by decide) (by decide) (by simp))
  have Ht := Lib.hid ht
  clear h2 h3 hc H1 ht
  go_wp2_with fail
  refine Ht.out.mono ?_
  rintro e w3 ⟨rfl, h4⟩
  have hcv : (convert 22 9 (.slice a 3 c)).run Tryd.prog w3 = .ok (.string (bs [97, 27, 60])) w3 :=
    run_bytes_str Tryd.underlying22 Tryd.underlying5 Tryd.underlying9 (l := [97, 27, 60]) (SrcV.of_row (h4.p1.row))
  have hb1 : (bs (textL [27])).toList = [60, 69, 115, 99, 62] := by decide +kernel
  have hb2 : (bs [97, 27, 60]).toList = [97, 27, 60] := by decide +kernel
  have hb3 : (nameB 18).toList = [60, 67, 45, 82, 62] := by decide +kernel
  have H4 := Lib.hid h4
  clear h4 Ht
  go_wp2_with fail
  refine (kname (c := 18) (by decide) (by decide) H4.out).mono ?_
  rintro e w4 ⟨rfl, h5⟩
  have H5 := Lib.hid h5
  clear h5 H4 hcv
  go_wp2_with fail
  refine (kdigits (n := 120) (by decide) (by decide) (tab_keep HT.out H5.out.chg) H5.out).mono ?_
  rintro e w5 ⟨v, rfl, h6⟩
  obtain ⟨a2, c2, rfl⟩ := h6.src.form
  have hd : digL 120 = [49, 50, 48] := by decide +kernel
  have hcv2 : (convert 22 9 (.slice a2 (digL 120).length c2)).run Tryd.prog w5 = .ok (.string (bs [49, 50, 48])) w5 :=
    run_bytes_str Tryd.underlying22 Tryd.underlying5 Tryd.underlying9 (l := [49, 50, 48]) (by rw [← hd]; exact h6.src)
  have hb4 : (bs [49, 50, 48]).toList = [49, 50, 48] := by decide +kernel
  have H6 := Lib.hid h6
  clear h6 H5 hd
  go_wp2_with fail
  go_ret
  exact ⟨rfl, H6.out.drop.p1.drop.drop⟩
end
end Go.Proofs.YtlehgghidcaodaaDoor
