/- An index of lines: Delete. -/
import Derived.Test.YtcdoomlagmddcaaGreatDoorIS
namespace Go.Proofs.YtcdoomlagmddcaaGreatDoor
open Go Go.RowKit Go.Fol
attribute [local go_sem ↓] Go.wp_at_zero Go.wp_at_succ
set_option linter.unusedVariables false
set_option linter.unusedSimpArgs false
section
variable {w0 w : World} {R : List Asrt}
theorem idelete_out {x : Nat} {t : List UInt8} {off n : Int} (H : Owns w0 w (Asrt.idx x t :: R)) (hb : t.length ≤ 1000000) (ho : ¬ (0 ≤ off ∧ 0 ≤ n ∧ off ≤ t.length ∧ n ≤ t.length - off)) :
    Calls Tryz.prog 55 #[.pointer (some ⟨x, 0, none⟩), .int .i64 off, .int .i64 n] w fun e w' => e = .returned (.bool false) ∧ w = w' := by
  obtain ⟨v, h⟩ := idxE H
  have k1 : w.cell? ⟨x, 1, none⟩ = some (.int .i64 t.length) := h.cell (j := 1) rfl
  clear h H
  by_cases h1 : off < 0
  · clear ho
    go_enter Tryz.func55, Tryz.ntmps55
    go_wp2_with fail
    go_ret
    exact ⟨rfl, rfl⟩
  · by_cases h2 : n < 0
    · clear ho
      go_enter Tryz.func55, Tryz.ntmps55
      go_wp2_with fail
      go_ret
      exact ⟨rfl, rfl⟩
    · by_cases h3 : (t.length : Int) < off
      · clear ho
        go_enter Tryz.func55, Tryz.ntmps55
        go_wp2_with fail
        go_ret
        exact ⟨rfl, rfl⟩
      · have h4 : (t.length : Int) - off < n := by omega
        clear ho
        go_enter Tryz.func55, Tryz.ntmps55
        go_wp2_with fail
        go_ret
        exact ⟨rfl, rfl⟩

set_option maxHeartbeats 2000000 in
theorem idelete {x off n : Nat} {t : List UInt8} (H : Owns w0 w (Asrt.idx x t :: R)) (ho : off + n ≤ t.length) (hb : t.length ≤ 1000000) :
    Calls Tryz.prog 55 #[.pointer (some ⟨x, 0, none⟩), .int .i64 off, .int .i64 n] w (Ret (.bool true) w0 (Asrt.idx x (t.take off ++ t.drop (off + n)) :: R)) := by
  obtain ⟨v, h⟩ := idxE H
  have k1 : w.cell? ⟨x, 1, none⟩ = some (.int .i64 t.length) := h.cell (j := 1) rfl
  have k0 : w.cell? ⟨x, 0, none⟩ = some (.pointer (some ⟨v, 0, none⟩)) := h.cell (j := 0) rfl
  have hn1 : ¬ ((off : Int) < 0) := by omega
  have hn2 : ¬ ((t.length : Int) < (off : Int)) := by omega
  have hn3 : ¬ ((n : Int) < 0) := by omega
  have hn4 : ¬ ((t.length : Int) - (off : Int) < (n : Int)) := by omega
  have Hline := Lib.hid (iline h (off := off) (by omega) hb)
  have Hline2 := Lib.hid (iline h.drew (off := off + n) (by omega) hb)
  obtain ⟨hst1, hst2⟩ := starts_delete ho
  obtain ⟨ln, hln⟩ : ∃ ln, ln = lineAt t off := ⟨_, rfl⟩
  obtain ⟨l2, hl2⟩ : ∃ l2, l2 = lineAt t (off + n) := ⟨_, rfl⟩
  obtain ⟨r, hr⟩ : ∃ r, r = brk ((t.drop off).take n) := ⟨_, rfl⟩
  rw [← hln, ← hl2, ← hr] at hst2
  rw [← hln, ← hl2] at hst1
  have hlb : l2 ≤ brk t := by rw [hl2]; exact lineAt_le t _
  have hbl := brk_le t
  have hil := istarts_len t
  rw [← hln] at Hline
  rw [← hl2, Int.natCast_add] at Hline2
  have HH := Lib.hid h
  obtain ⟨L, hL⟩ : ∃ L, L = istarts t := ⟨_, rfl⟩
  rw [← hL] at hst1 hil HH
  have hbd : ∀ y ∈ L, 0 ≤ y ∧ y ≤ 1000000 := by rw [hL]; exact istarts_bd hb
  have Hbd := Lib.hid hbd
  have Hst := Lib.hid hst1
  have hadd : IntKind.i64.wrap ((off : Int) + (n : Int)) = (off : Int) + (n : Int) := by rw [IntKind.wrap_i64]; omega
  have hadd2 : IntKind.i64.wrap ((ln : Int) + 1) = (ln : Int) + 1 := by rw [IntKind.wrap_i64]; omega
  have hadd3 : IntKind.i64.wrap ((l2 : Int) - (ln : Int)) = (l2 : Int) - (ln : Int) := by rw [IntKind.wrap_i64]; omega
  -- what the deletion in the vector leaves
  obtain ⟨L1, hL1⟩ : ∃ L1, L1 = L.take (ln + 1) ++ L.drop (l2 + 1) := ⟨_, rfl⟩
  have hL1l : L1.length = L.length - r := by rw [hL1]; simp; omega
  have hdel : Calls Tryz.prog 78 #[.pointer (some ⟨v, 0, none⟩), .int .i64 ((ln : Int) + 1), .int .i64 ((l2 : Int) - (ln : Int))] w.drew (RetX (fun d : Value => d) w0 (fun d => iobj x v t.length :: ivec v L1 :: R)) := by
    by_cases h0 : r = 0
    · refine (o_delete_out_int ((ln : Int) + 1) ((l2 : Int) - (ln : Int)) HH.out.drew.p1 (.inr (by omega))).mono ?_
      rintro e w' ⟨rfl, rfl⟩
      refine ⟨_, rfl, ?_⟩
      have : L1 = L := by rw [hL1, show l2 = ln by omega, List.take_append_drop]
      rw [this]
      exact HH.out.drew
    · have hd := o_delete_int (ln + 1) r ((l2 : Int) - (ln : Int)) HH.out.drew.p1 (ints_one L) (by omega) (by omega) (by omega) (by omega) (by omega)
      rw [Nat.mul_one, Nat.mul_one, ← ints_take, ← ints_drop, ← ints_append, show ln + 1 + r = l2 + 1 by omega, ← hL1, ← hL1l, Int.natCast_add, Int.natCast_one] at hd
      refine hd.mono ?_
      rintro e w' ⟨d, rfl, h5⟩
      exact ⟨d, rfl, h5.p1.drop.p1⟩
  have Hdel := Lib.hid hdel
  have hmv : ∀ w', Owns w0 w' (iobj x v t.length :: ivec v L1 :: R) → Calls Tryz.prog 73 #[.pointer (some ⟨x, 0, none⟩), .int .i64 ln, .int .i64 (-(n : Int))] w' (Ret (.tuple #[]) w0 (iobj x v t.length :: ivec v (istarts (t.take off ++ t.drop (off + n))) :: R)) := fun w' h5 => by
    have := imove (line := ln) (by_ := -(n : Int)) h5 (by omega) (by omega) (by omega) (by
      intro y hy
      rw [hL1] at hy
      rcases List.mem_append.1 hy with hy | hy
      · exact Hbd.out y (List.mem_of_mem_take hy)
      · exact Hbd.out y (List.mem_of_mem_drop hy))
    have e : L1.take (ln + 1) ++ (L1.drop (ln + 1)).map (· + (-(n : Int))) = istarts (t.take off ++ t.drop (off + n)) := by
      rw [Hst.out, hL1]
      have hl : (L.take (ln + 1)).length = ln + 1 := by simp; omega
      rw [List.take_left' hl, List.drop_left' hl]
    rw [e] at this
    exact this
  have Hmv := Lib.hid hmv
  clear h H hst1 hst2 hln hl2 hr hil hL hbd hL1 hL1l hdel hmv HH Hst
  go_enter Tryz.func55, Tryz.ntmps55
  go_wp2_with fail
  refine Hline.out.mono ?_
  rintro e w' ⟨rfl, rfl⟩
  go_wp2_with fail
  go_region_held3 (fun w' => w'.cell? ⟨x, 0, none⟩ = some (.pointer (some ⟨v, 0, none⟩))) (first | go_keep | exact s0)
    (first
      | (go_at_call 72; refine Hline2.out.mono ?_; rintro e w' ⟨rfl, rfl⟩)
      | (go_at_call 78; refine Hdel.out.mono ?_; rintro e w5 ⟨d, rfl, h5⟩; have s0 : w5.cell? ⟨x, 0, none⟩ = some (.pointer (some ⟨v, 0, none⟩)) := h5.cell (j := 0) rfl; have H5 := Lib.hid h5; clear h5))
  go_wp2_with fail
  refine (Hmv.out _ H5.out).mono ?_
  rintro e w6 ⟨rfl, h6⟩
  have x1 : w6.cell? ⟨x, 1, none⟩ = some (.int .i64 t.length) := h6.cell (j := 1) rfl
  have f1 : w6.frozen? ⟨x, 1, none⟩ = false := h6.frozen 1
  have hlen : (t.take off ++ t.drop (off + n)).length = t.length - n := by simp; omega
  have h7 := h6.set 1 (.int .i64 ((t.length : Int) - n))
  have Hend := Lib.hid (show Owns w0 (w6.setCell ⟨x, 1, none⟩ (.int .i64 ((t.length : Int) - n))) (Asrt.idx x (t.take off ++ t.drop (off + n)) :: R) by
    refine idxI (v := v) ?_
    rw [hlen, show ((t.length - n : Nat) : Int) = (t.length : Int) - n by omega]
    exact h7)
  clear h6 h7 hlen s0 k1 k0
  go_wp2_with fail
  go_ret
  exact ⟨rfl, Hend.out⟩
end
end Go.Proofs.YtcdoomlagmddcaaGreatDoor
