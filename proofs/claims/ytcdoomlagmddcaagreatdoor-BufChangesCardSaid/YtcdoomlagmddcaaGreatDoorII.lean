/- An index of lines: New, Lines, Len, Insert. -/
import Derived.Test.YtcdoomlagmddcaaGreatDoorIK
namespace Go.Proofs.YtcdoomlagmddcaaGreatDoor
open Go Go.RowKit Go.Fol
attribute [local go_sem ↓] Go.wp_at_zero Go.wp_at_succ
set_option linter.unusedVariables false
set_option linter.unusedSimpArgs false
/-- a string's bytes. -/
abbrev bytesOf (s : ByteArray) : List UInt8 := s.data.toList
theorem istarts_bd {t : List UInt8} (h : t.length ≤ 1000000) : ∀ y ∈ istarts t, 0 ≤ y ∧ y ≤ 1000000 := by
  intro y hy
  obtain ⟨n, hn, rfl⟩ := List.mem_map.1 hy
  have := starts_le hn
  omega
section
variable {w0 w : World} {R : List Asrt}
theorem iinsert_out {x : Nat} {t : List UInt8} {off : Int} (s : ByteArray) (H : Owns w0 w (Asrt.idx x t :: R)) (ho : off < 0 ∨ off > t.length) :
    Calls Tryz.prog 51 #[.pointer (some ⟨x, 0, none⟩), .int .i64 off, .string s] w fun e w' => e = .returned (.bool false) ∧ w = w' := by
  obtain ⟨v, h⟩ := idxE H
  have k1 : w.cell? ⟨x, 1, none⟩ = some (.int .i64 t.length) := h.cell (j := 1) rfl
  clear h H
  by_cases h1 : off < 0
  · clear ho
    go_enter Tryz.func51, Tryz.ntmps51
    go_wp2_with fail
    go_ret
    exact ⟨rfl, rfl⟩
  · have h2 : (t.length : Int) < off := by omega
    clear ho
    go_enter Tryz.func51, Tryz.ntmps51
    go_wp2_with fail
    go_ret
    exact ⟨rfl, rfl⟩

set_option maxHeartbeats 2000000 in
theorem iinsert {x off : Nat} {t : List UInt8} (s : ByteArray) (H : Owns w0 w (Asrt.idx x t :: R)) (ho : off ≤ t.length) (hb : t.length + s.size ≤ 1000000) :
    Calls Tryz.prog 51 #[.pointer (some ⟨x, 0, none⟩), .int .i64 off, .string s] w (Ret (.bool true) w0 (Asrt.idx x (t.take off ++ bytesOf s ++ t.drop off) :: R)) := by
  obtain ⟨v, h⟩ := idxE H
  have hsz : s.size = (bytesOf s).length := by simp [bytesOf]
  have k1 : w.cell? ⟨x, 1, none⟩ = some (.int .i64 t.length) := h.cell (j := 1) rfl
  have hn1 : ¬ ((off : Int) < 0) := by omega
  have hn2 : ¬ ((t.length : Int) < (off : Int)) := by omega
  have HH := Lib.hid h
  have Hline := Lib.hid (iline h ho (by omega))
  obtain ⟨ln, hln⟩ : ∃ ln, ln = lineAt t off := ⟨_, rfl⟩
  have hlb : ln ≤ t.length := by rw [hln]; exact Nat.le_trans (lineAt_le t off) (brk_le t)
  have hlb2 : ln + 1 ≤ (istarts t).length := by rw [hln, istarts_len]; have := lineAt_le t off; omega
  have Hmove := Lib.hid (imove (line := ln) (by_ := s.size) h (by rw [istarts_len]; have := brk_le t; omega) (by omega) (by omega) (istarts_bd (by omega)))
  rw [← hln] at Hline
  have Hln := Lib.hid hln
  have Hsz := Lib.hid hsz
  clear h H hln hsz
  go_enter Tryz.func51, Tryz.ntmps51
  go_wp2_with fail
  refine Hline.out.mono ?_
  rintro e w' ⟨rfl, rfl⟩
  go_wp2_with fail
  refine Hmove.out.mono ?_
  rintro e w1 ⟨rfl, h1⟩
  have H1 := Lib.hid h1
  clear h1 Hline Hmove k1 HH
  go_wp2_with fail
  go_loopw [8, 30] (fun mv q wr => ∃ k m : Nat, q = .int .i64 k ∧ k ≤ s.size ∧ m = (sf off ((bytesOf s).take k)).length ∧ m ≤ k ∧ Owns w0 wr (row_int mv m (ints ((sf off ((bytesOf s).take k)).map (fun n : Nat => (n : Int)))) :: iobj x v t.length :: ivec v ((istarts t).take (ln + 1) ++ ((istarts t).drop (ln + 1)).map (· + (s.size : Int))) :: R)) (fun _ q _ => s.size - (intOf q).toNat)
  case atStart => exact ⟨0, 0, rfl, Nat.zero_le _, rfl, Nat.le_refl _, H1.out.rowNil 3 1⟩
  case round =>
    obtain ⟨k, m, rfl, hk, hm, hmk, h2⟩ := hrel
    have H2 := Lib.hid h2
    have Hm := Lib.hid hm
    obtain ⟨ra, rc, rfl⟩ := row_slice h2.row
    clear h2 hm
    by_cases hlt : k < s.size
    · have hc : (bytesOf s)[k]? = some s[k] := by
        rw [List.getElem?_eq_getElem (by rw [← Hsz.out]; exact hlt)]; rfl
      have hst := sf_take off hc sf_append
      have Hst := Lib.hid hst
      clear hc hst
      by_cases h10 : s[k] = 10
      · have h10' : ((s[k].toNat : Int) == 10) = true := by rw [h10]; rfl
        have h7 := (H2.out.alloc #[.int .i64 ((off : Int) + k + 1)] 3).p1
        obtain ⟨s', w6, hr, h8⟩ := app_int (x := .slice (some ⟨wr.heap.size, 0, none⟩) 1 1) (m := 1) (vs := [.int .i64 ((off : Int) + k + 1)]) h7 (Reads.obj (b := wr.heap.size) (k := 1) (n := 1) (t := 3) (f := (0, 0)) (cs := #[.int .i64 ((off : Int) + k + 1)]) (by simp) (by decide) (by decide) (by simp)) (by simp [Value.oneCell']) (by unfold maxLen; omega) (by omega)
        have h9 := h8.p1.drop
        rw [show [Value.int .i64 ((off : Int) + k + 1)] = ints [((off + k + 1 : Nat) : Int)] from by simp [ints], ← ints_append] at h9
        have H9 := Lib.hid h9
        have H10 := Lib.hid h10
        clear h7 h8 h9 h10
        go_wp2_with (at_builtin; refine Lib.wpList_append_run _ rfl _ _ _ _ rfl _ _ rfl rfl _ _ (hr _) ?_)
        go_roundw
        case rel => exact ⟨k + 1, m + 1, by go_num, by omega, by rw [Hst.out, if_pos H10.out, List.length_append, ← Hm.out]; rfl, by omega, by rw [Hst.out, if_pos H10.out, List.map_append]; exact H9.out⟩
        case measure => simp [intOf]; omega
      · have h10' : ((s[k].toNat : Int) == 10) = false := by
          have : s[k].toNat ≠ 10 := fun h => h10 (UInt8.toNat_inj.1 h)
          simp; omega
        have H10 := Lib.hid h10
        clear h10
        go_wp2
        go_roundw
        case rel => exact ⟨k + 1, m, by go_num, by omega, by rw [Hst.out, if_neg H10.out, List.append_nil]; exact Hm.out, by omega, by rw [Hst.out, if_neg H10.out, List.append_nil]; exact H2.out⟩
        case measure => simp [intOf]; omega
    · obtain rfl : k = s.size := by omega
      have htk : (bytesOf s).take s.size = bytesOf s := List.take_of_length_le (by rw [← Hsz.out]; exact Nat.le_refl _)
      have h2 := H2.out
      have hm := Hm.out
      rw [htk] at h2 hm
      have k0 : wr.cell? ⟨x, 0, none⟩ = some (.pointer (some ⟨v, 0, none⟩)) := h2.p1.cell (j := 0) rfl
      obtain ⟨L1, hL1⟩ : ∃ L1, L1 = (istarts t).take (ln + 1) ++ ((istarts t).drop (ln + 1)).map (· + (s.size : Int)) := ⟨_, rfl⟩
      have hl1 : L1.length = (istarts t).length := by rw [hL1]; simp; omega
      rw [← hL1] at h2
      have hbl : (istarts t).length ≤ 1000001 := by rw [istarts_len]; have := brk_le t; omega
      have hins := o_insert_int (ln + 1) (.slice ra m rc) _ h2.p2 (Reads.row (e := 3) (v := .slice ra m rc) (n := m) (xs := ints ((sf off (bytesOf s)).map (fun n : Nat => (n : Int)))) (by simp)) (ints_one _) (ints_one _) (by rw [hl1]; exact hlb2) (by omega)
      have hfin : istarts (t.take off ++ bytesOf s ++ t.drop off) = L1.take (ln + 1) ++ (sf off (bytesOf s)).map (fun n : Nat => (n : Int)) ++ L1.drop (ln + 1) := by
        rw [starts_insert ho, ← Hln.out, hL1, ← Hsz.out]
        have hl : ((istarts t).take (ln + 1)).length = ln + 1 := by simp; omega
        rw [List.take_left' hl, List.drop_left' hl]
      rw [Nat.mul_one, ← ints_take, ← ints_drop, ← ints_append, ← ints_append, ← hfin, show L1.length + m = (istarts (t.take off ++ bytesOf s ++ t.drop off)).length by rw [hfin]; simp; omega] at hins
      have Hins := Lib.hid hins
      clear hins h2 hm htk hfin hL1 hl1 hbl H2 Hm
      go_wp2_with fail
      refine Hins.out.mono ?_
      rintro e w5 ⟨rfl, h5⟩
      have h6 := (h5.ord [2])
      have k1 : w5.cell? ⟨x, 1, none⟩ = some (.int .i64 t.length) := h6.cell (j := 1) rfl
      have f1 : w5.frozen? ⟨x, 1, none⟩ = false := h6.frozen 1
      have hlen : (t.take off ++ bytesOf s ++ t.drop off).length = t.length + s.size := by simp; have := Hsz.out; simp at this; omega
      have h7 := h6.set 1 (.int .i64 ((t.length : Int) + s.size))
      have Hend := Lib.hid (show Owns w0 (w5.setCell ⟨x, 1, none⟩ (.int .i64 ((t.length : Int) + s.size))) (Asrt.idx x (t.take off ++ bytesOf s ++ t.drop off) :: R) by
        refine idxI (v := v) ?_
        rw [hlen, Int.natCast_add]
        exact h7.p2.drop)
      clear h5 h6 h7 hlen Hins
      go_wp2_with fail
      go_ret
      exact ⟨rfl, Hend.out⟩
theorem ilines {x : Nat} {t : List UInt8} (H : Owns w0 w (Asrt.idx x t :: R)) :
    Calls Tryz.prog 39 #[.pointer (some ⟨x, 0, none⟩)] w fun e w' => e = .returned (.int .i64 ((brk t : Int) + 1)) ∧ w = w' := by
  obtain ⟨v, h⟩ := idxE H
  have k0 : w.cell? ⟨x, 0, none⟩ = some (.pointer (some ⟨v, 0, none⟩)) := h.cell (j := 0) rfl
  have hlen := o_len_int h.p1
  rw [istarts_len, Int.natCast_add, Int.natCast_one] at hlen
  have Hlen := Lib.hid hlen
  clear h H hlen
  go_enter Tryz.func39, Tryz.ntmps39
  go_wp2_with fail
  refine Hlen.out.mono ?_
  rintro e w' ⟨rfl, rfl⟩
  go_wp2_with fail
  go_ret
  exact ⟨rfl, rfl⟩
theorem ilen {x : Nat} {t : List UInt8} (H : Owns w0 w (Asrt.idx x t :: R)) :
    Calls Tryz.prog 32 #[.pointer (some ⟨x, 0, none⟩)] w fun e w' => e = .returned (.int .i64 t.length) ∧ w = w' := by
  obtain ⟨v, h⟩ := idxE H
  have k1 : w.cell? ⟨x, 1, none⟩ = some (.int .i64 t.length) := h.cell (j := 1) rfl
  clear h H
  go_enter Tryz.func32, Tryz.ntmps32
  go_wp2_with fail
  go_ret
  exact ⟨rfl, rfl⟩
theorem inew (s : ByteArray) (H : Owns w0 w R) (hb : s.size ≤ 1000000) :
    Calls Tryz.prog 29 #[.string s] w (RetX (fun x : Nat => .pointer (some ⟨x, 0, none⟩)) w0 (fun x => Asrt.idx x (bytesOf s) :: R)) := by
  have h1 := H.alloc #[.int .i64 0] 3
  have hnew := o_new_int (.slice (some ⟨w.heap.size, 0, none⟩) 1 1) 1 [.int .i64 0] h1 (Reads.obj (b := w.heap.size) (k := 1) (n := 1) (t := 3) (f := (0, 0)) (cs := #[.int .i64 0]) (by simp) (by decide) (by decide) (by simp)) (by simp [Value.oneCell']) (by omega)
  have Hnew := Lib.hid hnew
  clear h1 hnew H
  go_enter Tryz.func29, Tryz.ntmps29
  go_wp2_with fail
  refine Hnew.out.mono ?_
  rintro e w1 ⟨v, rfl, h2⟩
  have h3 : Owns w0 (w1.alloc (.cells #[.pointer (some ⟨v, 0, none⟩), .int .i64 0] 94)) (Asrt.idx w1.heap.size [] :: R) := by
    refine idxI (v := v) (t := []) ?_
    exact ((h2.alloc #[.pointer (some ⟨v, 0, none⟩), .int .i64 0] 94).p2).drop
  have hins := iinsert (off := 0) s h3 (Nat.zero_le _) (by simpa using hb)
  have Hins := Lib.hid hins
  clear h2 h3 hins Hnew
  go_wp2_with fail
  refine Hins.out.mono ?_
  rintro e w3 ⟨rfl, h4⟩
  have H4 := Lib.hid h4
  clear h4 Hins
  go_wp2_with fail
  go_ret
  exact ⟨_, rfl, by simpa using H4.out⟩
end
end Go.Proofs.YtcdoomlagmddcaaGreatDoor
