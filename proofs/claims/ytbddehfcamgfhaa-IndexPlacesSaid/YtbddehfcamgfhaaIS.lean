/- An index of lines: Start, Size, At, Off. -/
import Derived.Test.YtbddehfcamgfhaaII
namespace Go.Proofs.Ytbddehfcamgfhaa
open Go Go.RowKit Go.Fol
attribute [local go_sem ↓] Go.wp_at_zero Go.wp_at_succ
set_option linter.unusedVariables false
set_option linter.unusedSimpArgs false
section
variable {w0 w : World} {R : List Asrt}
theorem vat_in {v h : Nat} {t : List UInt8} (H : Owns w0 w (ivec v (istarts t) :: R)) (hh : h < brk t + 1) :
    Calls Try.prog 20 #[.pointer (some ⟨v, 0, none⟩), .int .i64 h] w fun e w' => e = .returned (.tuple #[.int .i64 (lstart t h), .bool true]) ∧ w = w' :=
  o_at_int h _ H (by rw [istarts_len]; exact hh) (by simp [ints, istart_get hh])
theorem vat_out {v : Nat} {i : Int} {t : List UInt8} (H : Owns w0 w (ivec v (istarts t) :: R)) (hh : ¬ (0 ≤ i ∧ i < (brk t : Int) + 1)) :
    Calls Try.prog 20 #[.pointer (some ⟨v, 0, none⟩), .int .i64 i] w fun e w' => e = .returned (.tuple #[.int .i64 0, .bool false]) ∧ w = w' :=
  o_at_out_int i H (by rw [istarts_len]; omega)
theorem istart_in {x h : Nat} {t : List UInt8} (H : Owns w0 w (Asrt.idx x t :: R)) (hh : h < brk t + 1) :
    Calls Try.prog 10 #[.pointer (some ⟨x, 0, none⟩), .int .i64 h] w fun e w' => e = .returned (.tuple #[.int .i64 (lstart t h), .bool true]) ∧ w = w' := by
  obtain ⟨v, h1⟩ := idxE H
  have k0 : w.cell? ⟨x, 0, none⟩ = some (.pointer (some ⟨v, 0, none⟩)) := h1.cell (j := 0) rfl
  have Hc := Lib.hid (vat_in h1.p1 hh)
  clear h1 H
  go_enter Try.func10, Try.ntmps10
  go_wp2_with fail
  refine Hc.out.mono ?_
  rintro e w' ⟨rfl, rfl⟩
  go_wp2_with fail
  go_ret2
  exact ⟨rfl, rfl⟩
theorem istart_out {x : Nat} {i : Int} {t : List UInt8} (H : Owns w0 w (Asrt.idx x t :: R)) (hh : ¬ (0 ≤ i ∧ i < (brk t : Int) + 1)) :
    Calls Try.prog 10 #[.pointer (some ⟨x, 0, none⟩), .int .i64 i] w fun e w' => e = .returned (.tuple #[.int .i64 0, .bool false]) ∧ w = w' := by
  obtain ⟨v, h1⟩ := idxE H
  have k0 : w.cell? ⟨x, 0, none⟩ = some (.pointer (some ⟨v, 0, none⟩)) := h1.cell (j := 0) rfl
  have Hc := Lib.hid (vat_out h1.p1 hh)
  clear h1 H hh
  go_enter Try.func10, Try.ntmps10
  go_wp2_with fail
  refine Hc.out.mono ?_
  rintro e w' ⟨rfl, rfl⟩
  go_wp2_with fail
  go_ret2
  exact ⟨rfl, rfl⟩
theorem isize_in {x h : Nat} {t : List UInt8} (H : Owns w0 w (Asrt.idx x t :: R)) (hh : h < brk t + 1) (hb : t.length ≤ 1000000) :
    Calls Try.prog 11 #[.pointer (some ⟨x, 0, none⟩), .int .i64 h] w fun e w' => e = .returned (.tuple #[.int .i64 ((lnext t h : Int) - 1 - lstart t h), .bool true]) ∧ w = w' := by
  obtain ⟨v, h1⟩ := idxE H
  have k0 : w.cell? ⟨x, 0, none⟩ = some (.pointer (some ⟨v, 0, none⟩)) := h1.cell (j := 0) rfl
  have k1 : w.cell? ⟨x, 1, none⟩ = some (.int .i64 t.length) := h1.cell (j := 1) rfl
  have Hc := Lib.hid (vat_in h1.p1 hh)
  have hbl := brk_le t
  have hls := lstart_le t h
  have hls2 := lstart_le t (h + 1)
  have hh1 : h ≤ 1000000 := by omega
  by_cases hnx : h + 1 < brk t + 1
  · have Hd := Lib.hid (vat_in h1.p1 hnx)
    rw [Int.natCast_add, Int.natCast_one] at Hd
    rw [lnext_in hnx]
    clear h1 H
    go_enter Try.func11, Try.ntmps11
    go_wp2_with fail
    refine Hc.out.mono ?_
    rintro e w' ⟨rfl, rfl⟩
    go_wp2_with fail
    refine Hd.out.mono ?_
    rintro e w' ⟨rfl, rfl⟩
    go_wp2_with fail
    go_ret2
    exact ⟨rfl, rfl⟩
  · have Hd := Lib.hid (vat_out (i := (h : Int) + 1) h1.p1 (by omega))
    have hlast : h = brk t := by omega
    rw [lnext_last hlast, show ((t.length + 1 : Nat) : Int) - 1 = t.length by omega]
    clear h1 H hlast hnx
    go_enter Try.func11, Try.ntmps11
    go_wp2_with fail
    refine Hc.out.mono ?_
    rintro e w' ⟨rfl, rfl⟩
    go_wp2_with fail
    refine Hd.out.mono ?_
    rintro e w' ⟨rfl, rfl⟩
    go_wp2_with fail
    go_ret2
    exact ⟨rfl, rfl⟩
theorem isize_out {x : Nat} {i : Int} {t : List UInt8} (H : Owns w0 w (Asrt.idx x t :: R)) (hh : ¬ (0 ≤ i ∧ i < (brk t : Int) + 1)) :
    Calls Try.prog 11 #[.pointer (some ⟨x, 0, none⟩), .int .i64 i] w fun e w' => e = .returned (.tuple #[.int .i64 0, .bool false]) ∧ w = w' := by
  obtain ⟨v, h1⟩ := idxE H
  have k0 : w.cell? ⟨x, 0, none⟩ = some (.pointer (some ⟨v, 0, none⟩)) := h1.cell (j := 0) rfl
  have Hc := Lib.hid (vat_out h1.p1 hh)
  clear h1 H hh
  go_enter Try.func11, Try.ntmps11
  go_wp2_with fail
  refine Hc.out.mono ?_
  rintro e w' ⟨rfl, rfl⟩
  go_wp2_with fail
  go_ret2
  exact ⟨rfl, rfl⟩
theorem iat_in {x off : Nat} {t : List UInt8} (H : Owns w0 w (Asrt.idx x t :: R)) (ho : off ≤ t.length) (hb : t.length ≤ 1000000) :
    Calls Try.prog 13 #[.pointer (some ⟨x, 0, none⟩), .int .i64 off] w (Ret (.tuple #[.agg #[.int .i64 (lineAt t off), .int .i64 ((off : Int) - lstart t (lineAt t off))], .bool true]) w0 (Asrt.idx x t :: R)) := by
  obtain ⟨v, h⟩ := idxE H
  have h2 := h.alloc0 (.cells #[.int .i64 0, .int .i64 0] 23)
  have k0 : (w.alloc (.cells #[.int .i64 0, .int .i64 0] 23)).cell? ⟨x, 0, none⟩ = some (.pointer (some ⟨v, 0, none⟩)) := h2.cell (j := 0) rfl
  have k1 : (w.alloc (.cells #[.int .i64 0, .int .i64 0] 23)).cell? ⟨x, 1, none⟩ = some (.int .i64 t.length) := h2.cell (j := 1) rfl
  have Hl := Lib.hid (iline h2 ho hb)
  have Hc := Lib.hid (vat_in (h := lineAt t off) h2.p1 (by have := lineAt_le t off; omega))
  have HH := Lib.hid H
  have hls := lstart_le t (lineAt t off)
  have hn1 : ¬ ((off : Int) < 0) := by omega
  have hn2 : ¬ ((t.length : Int) < (off : Int)) := by omega
  clear h h2 H
  go_enter Try.func13, Try.ntmps13
  go_wp2_with fail
  refine Hl.out.mono ?_
  rintro e w' ⟨rfl, rfl⟩
  go_wp2_with fail
  refine Hc.out.mono ?_
  rintro e w' ⟨rfl, rfl⟩
  go_wp2_with fail
  exact bodyPost_ret (v := .tuple #[.agg #[.int .i64 (lineAt t off), .int .i64 ((off : Int) - lstart t (lineAt t off))], .bool true]) (by simp [results, Try.results13, go_sem]) rfl ⟨rfl, HH.out.alloc0 _⟩
theorem iat_out {x : Nat} {off : Int} {t : List UInt8} (H : Owns w0 w (Asrt.idx x t :: R)) (ho : off < 0 ∨ off > t.length) :
    Calls Try.prog 13 #[.pointer (some ⟨x, 0, none⟩), .int .i64 off] w (Ret (.tuple #[.agg #[.int .i64 0, .int .i64 0], .bool false]) w0 (Asrt.idx x t :: R)) := by
  obtain ⟨v, h⟩ := idxE H
  have h2 := h.alloc0 (.cells #[.int .i64 0, .int .i64 0] 23)
  have k1 : (w.alloc (.cells #[.int .i64 0, .int .i64 0] 23)).cell? ⟨x, 1, none⟩ = some (.int .i64 t.length) := h2.cell (j := 1) rfl
  have HH := Lib.hid H
  clear h h2 H
  by_cases h1 : off < 0
  · clear ho
    go_enter Try.func13, Try.ntmps13
    go_wp2_with fail
    exact bodyPost_ret (v := .tuple #[.agg #[.int .i64 0, .int .i64 0], .bool false]) (by simp [results, Try.results13, go_sem]) rfl ⟨rfl, HH.out.alloc0 _⟩
  · have h2 : (t.length : Int) < off := by omega
    clear ho
    go_enter Try.func13, Try.ntmps13
    go_wp2_with fail
    exact bodyPost_ret (v := .tuple #[.agg #[.int .i64 0, .int .i64 0], .bool false]) (by simp [results, Try.results13, go_sem]) rfl ⟨rfl, HH.out.alloc0 _⟩
set_option maxHeartbeats 1000000 in
theorem ioff_in {x h c : Nat} {t : List UInt8} (H : Owns w0 w (Asrt.idx x t :: R)) (hh : h < brk t + 1) (hc : (c : Int) ≤ (lnext t h : Int) - 1 - lstart t h) (hb : t.length ≤ 1000000) :
    Calls Try.prog 12 #[.pointer (some ⟨x, 0, none⟩), .agg #[.int .i64 h, .int .i64 c]] w (Ret (.tuple #[.int .i64 ((lstart t h : Int) + c), .bool true]) w0 (Asrt.idx x t :: R)) := by
  have H1 := (H.alloc #[.int .i64 h, .int .i64 c] 23).p1
  obtain ⟨W, hW⟩ : ∃ W, w.alloc (.cells #[.int .i64 h, .int .i64 c] 23) = W := ⟨_, rfl⟩
  rw [hW] at H1
  obtain ⟨v, h2⟩ := idxE H1
  have hB : W.heap[w.heap.size]? = some (.cells #[.int .i64 h, .int .i64 c] 23 (0, 0)) := H1.p1.obj
  obtain ⟨B, hBe⟩ : ∃ B, B = w.heap.size := ⟨_, rfl⟩
  rw [← hBe] at hB
  have c0 : W.cell? ⟨B, 0, none⟩ = some (.int .i64 h) := cell_of_heap hB (j := 0) rfl
  have c1 : W.cell? ⟨B, 1, none⟩ = some (.int .i64 c) := cell_of_heap hB (j := 1) rfl
  have k0 : W.cell? ⟨x, 0, none⟩ = some (.pointer (some ⟨v, 0, none⟩)) := h2.cell (j := 0) rfl
  have Hs := Lib.hid (isize_in H1 hh hb)
  have Hv := Lib.hid (vat_in h2.drew.p1 hh)
  have Hend := Lib.hid (idxI h2.drew).p1.drop
  have HW := Lib.hid hW
  have HB := Lib.hid hBe
  have hls := lstart_le t h
  have hln := lnext_le (t := t) (h := h) (by omega)
  have hn1 : ¬ ((c : Int) < 0) := by omega
  have hn2 : ¬ ((lnext t h : Int) - 1 - lstart t h < (c : Int)) := by omega
  clear H1 h2 hB hW hBe H hc
  go_enter Try.func12, Try.ntmps12
  go_upto_region 1 with (fail)
  rw [HW.out, ← HB.out]
  clear HW HB
  go_wp2_with fail
  refine Hs.out.mono ?_
  rintro e w' ⟨rfl, rfl⟩
  go_wp2_with fail
  go_region_held3 (fun w' => w'.cell? ⟨x, 0, none⟩ = some (.pointer (some ⟨v, 0, none⟩)) ∧ w'.cell? ⟨B, 0, none⟩ = some (.int .i64 h)) (go_keep)
    ((go_at_call 20; refine Hv.out.mono ?_; rintro e w' ⟨rfl, rfl⟩))
  go_wp2_with fail
  go_ret2
  exact ⟨rfl, Hend.out⟩
set_option maxHeartbeats 1000000 in
theorem ioff_out {x : Nat} {h c : Int} {t : List UInt8} (H : Owns w0 w (Asrt.idx x t :: R)) (hb : t.length ≤ 1000000) (hh : ¬ (0 ≤ h ∧ h < (brk t : Int) + 1 ∧ 0 ≤ c ∧ c ≤ (lnext t h.toNat : Int) - 1 - lstart t h.toNat)) :
    Calls Try.prog 12 #[.pointer (some ⟨x, 0, none⟩), .agg #[.int .i64 h, .int .i64 c]] w (Ret (.tuple #[.int .i64 0, .bool false]) w0 (Asrt.idx x t :: R)) := by
  have H1 := (H.alloc #[.int .i64 h, .int .i64 c] 23).p1
  obtain ⟨W, hW⟩ : ∃ W, w.alloc (.cells #[.int .i64 h, .int .i64 c] 23) = W := ⟨_, rfl⟩
  rw [hW] at H1
  have hB : W.heap[w.heap.size]? = some (.cells #[.int .i64 h, .int .i64 c] 23 (0, 0)) := H1.p1.obj
  obtain ⟨B, hBe⟩ : ∃ B, B = w.heap.size := ⟨_, rfl⟩
  rw [← hBe] at hB
  have c0 : W.cell? ⟨B, 0, none⟩ = some (.int .i64 h) := cell_of_heap hB (j := 0) rfl
  have c1 : W.cell? ⟨B, 1, none⟩ = some (.int .i64 c) := cell_of_heap hB (j := 1) rfl
  have Hend := Lib.hid H1.p1.drop
  have HW := Lib.hid hW
  have HB := Lib.hid hBe
  by_cases hin : 0 ≤ h ∧ h < (brk t : Int) + 1
  · obtain ⟨q, rfl⟩ := Int.eq_ofNat_of_zero_le hin.1
    simp only [Int.toNat_natCast] at hh
    have Hs := Lib.hid (isize_in H1 (h := q) (by omega) hb)
    have hls := lstart_le t q
    have hln := lnext_le (t := t) (h := q) (by omega)
    by_cases hc0 : c < 0
    · clear H1 hB hW hBe H hh hin
      go_enter Try.func12, Try.ntmps12
      go_upto_region 1 with (fail)
      rw [HW.out, ← HB.out]
      clear HW HB
      go_wp2_with fail
      refine Hs.out.mono ?_
      rintro e w' ⟨rfl, rfl⟩
      go_wp2_with fail
      go_ret2
      exact ⟨rfl, Hend.out⟩
    · have hc2 : (lnext t q : Int) - 1 - lstart t q < c := by omega
      clear H1 hB hW hBe H hh hin
      go_enter Try.func12, Try.ntmps12
      go_upto_region 1 with (fail)
      rw [HW.out, ← HB.out]
      clear HW HB
      go_wp2_with fail
      refine Hs.out.mono ?_
      rintro e w' ⟨rfl, rfl⟩
      go_wp2_with fail
      go_ret2
      exact ⟨rfl, Hend.out⟩
  · have Hs := Lib.hid (isize_out H1 hin)
    clear H1 hB hW hBe H hh hin
    go_enter Try.func12, Try.ntmps12
    go_upto_region 1 with (fail)
    rw [HW.out, ← HB.out]
    clear HW HB
    go_wp2_with fail
    refine Hs.out.mono ?_
    rintro e w' ⟨rfl, rfl⟩
    go_wp2_with fail
    go_ret2
    exact ⟨rfl, Hend.out⟩
end
end Go.Proofs.Ytbddehfcamgfhaa
