/- An index of lines: Start, Size, At, Off. -/
import Derived.Test.YtcdoomlagmddcaaGreatDoorII
namespace Go.Proofs.YtcdoomlagmddcaaGreatDoor
open Go Go.RowKit Go.Fol
attribute [local go_sem ↓] Go.wp_at_zero Go.wp_at_succ
set_option linter.unusedVariables false
set_option linter.unusedSimpArgs false
section
variable {w0 w : World} {R : List Asrt}
theorem vat_in {v h : Nat} {t : List UInt8} (H : Owns w0 w (ivec v (istarts t) :: R)) (hh : h < brk t + 1) :
    Calls Tryz.prog 53 #[.pointer (some ⟨v, 0, none⟩), .int .i64 h] w fun e w' => e = .returned (.tuple #[.int .i64 (lstart t h), .bool true]) ∧ w = w' :=
  o_at_int h _ H (by rw [istarts_len]; exact hh) (by simp [ints, istart_get hh])
theorem vat_out {v : Nat} {i : Int} {t : List UInt8} (H : Owns w0 w (ivec v (istarts t) :: R)) (hh : ¬ (0 ≤ i ∧ i < (brk t : Int) + 1)) :
    Calls Tryz.prog 53 #[.pointer (some ⟨v, 0, none⟩), .int .i64 i] w fun e w' => e = .returned (.tuple #[.int .i64 0, .bool false]) ∧ w = w' :=
  o_at_out_int i H (by rw [istarts_len]; omega)
theorem istart_in {x h : Nat} {t : List UInt8} (H : Owns w0 w (Asrt.idx x t :: R)) (hh : h < brk t + 1) :
    Calls Tryz.prog 31 #[.pointer (some ⟨x, 0, none⟩), .int .i64 h] w fun e w' => e = .returned (.tuple #[.int .i64 (lstart t h), .bool true]) ∧ w = w' := by
  obtain ⟨v, h1⟩ := idxE H
  have k0 : w.cell? ⟨x, 0, none⟩ = some (.pointer (some ⟨v, 0, none⟩)) := h1.cell (j := 0) rfl
  have Hc := Lib.hid (vat_in h1.p1 hh)
  clear h1 H
  go_enter Tryz.func31, Tryz.ntmps31
  go_wp2_with fail
  refine Hc.out.mono ?_
  rintro e w' ⟨rfl, rfl⟩
  go_wp2_with fail
  go_ret2
  exact ⟨rfl, rfl⟩
theorem istart_out {x : Nat} {i : Int} {t : List UInt8} (H : Owns w0 w (Asrt.idx x t :: R)) (hh : ¬ (0 ≤ i ∧ i < (brk t : Int) + 1)) :
    Calls Tryz.prog 31 #[.pointer (some ⟨x, 0, none⟩), .int .i64 i] w fun e w' => e = .returned (.tuple #[.int .i64 0, .bool false]) ∧ w = w' := by
  obtain ⟨v, h1⟩ := idxE H
  have k0 : w.cell? ⟨x, 0, none⟩ = some (.pointer (some ⟨v, 0, none⟩)) := h1.cell (j := 0) rfl
  have Hc := Lib.hid (vat_out h1.p1 hh)
  clear h1 H hh
  go_enter Tryz.func31, Tryz.ntmps31
  go_wp2_with fail
  refine Hc.out.mono ?_
  rintro e w' ⟨rfl, rfl⟩
  go_wp2_with fail
  go_ret2
  exact ⟨rfl, rfl⟩
theorem isize_in {x h : Nat} {t : List UInt8} (H : Owns w0 w (Asrt.idx x t :: R)) (hh : h < brk t + 1) (hb : t.length ≤ 1000000) :
    Calls Tryz.prog 37 #[.pointer (some ⟨x, 0, none⟩), .int .i64 h] w fun e w' => e = .returned (.tuple #[.int .i64 ((lnext t h : Int) - 1 - lstart t h), .bool true]) ∧ w = w' := by
  obtain ⟨v, h1⟩ := idxE H
  have k0 : w.cell? ⟨x, 0, none⟩ = some (.pointer (some ⟨v, 0, none⟩)) := h1.cell (j := 0) rfl
  have k1 : w.cell? ⟨x, 1, none⟩ = some (.int .i64 t.length) := h1.cell (j := 1) rfl
  have Hc := Lib.hid (vat_in h1.p1 hh)
  have hbl := brk_le t
  have hls := lstart_le t h
  have hls2 := lstart_le t (h + 1)
  have hh1 : h ≤ 1000000 := by omega
  by_cases hnx : h + 1 < brk t + 1
  · have Hd := Lib.hid (vat_in h1.p1 hnx)
    rw [Int.natCast_add, Int.natCast_one] at Hd
    rw [lnext_in hnx]
    clear h1 H
    go_enter Tryz.func37, Tryz.ntmps37
    go_wp2_with fail
    refine Hc.out.mono ?_
    rintro e w' ⟨rfl, rfl⟩
    go_wp2_with fail
    refine Hd.out.mono ?_
    rintro e w' ⟨rfl, rfl⟩
    go_wp2_with fail
    go_ret2
    exact ⟨rfl, rfl⟩
  · have Hd := Lib.hid (vat_out (i := (h : Int) + 1) h1.p1 (by omega))
    have hlast : h = brk t := by omega
    rw [lnext_last hlast, show ((t.length + 1 : Nat) : Int) - 1 = t.length by omega]
    clear h1 H hlast hnx
    go_enter Tryz.func37, Tryz.ntmps37
    go_wp2_with fail
    refine Hc.out.mono ?_
    rintro e w' ⟨rfl, rfl⟩
    go_wp2_with fail
    refine Hd.out.mono ?_
    rintro e w' ⟨rfl, rfl⟩
    go_wp2_with fail
    go_ret2
    exact ⟨rfl, rfl⟩
theorem isize_out {x : Nat} {i : Int} {t : List UInt8} (H : Owns w0 w (Asrt.idx x t :: R)) (hh : ¬ (0 ≤ i ∧ i < (brk t : Int) + 1)) :
    Calls Tryz.prog 37 #[.pointer (some ⟨x, 0, none⟩), .int .i64 i] w fun e w' => e = .returned (.tuple #[.int .i64 0, .bool false]) ∧ w = w' := by
  obtain ⟨v, h1⟩ := idxE H
  have k0 : w.cell? ⟨x, 0, none⟩ = some (.pointer (some ⟨v, 0, none⟩)) := h1.cell (j := 0) rfl
  have Hc := Lib.hid (vat_out h1.p1 hh)
  clear h1 H hh
  go_enter Tryz.func37, Tryz.ntmps37
  go_wp2_with fail
  refine Hc.out.mono ?_
  rintro e w' ⟨rfl, rfl⟩
  go_wp2_with fail
  go_ret2
  exact ⟨rfl, rfl⟩
end
end Go.Proofs.YtcdoomlagmddcaaGreatDoor
