/- Piece tables: New, Len, Pieces, Edits. -/
import Derived.Test.YtcdoomlagmddcaaGreatDoorCC
namespace Go.Proofs.YtcdoomlagmddcaaGreatDoor
open Go Go.RowKit Go.Fol
attribute [local go_sem ↓] Go.wp_at_zero Go.wp_at_succ
set_option linter.unusedVariables false
set_option linter.unusedSimpArgs false
set_option maxRecDepth 100000
theorem bstr_toList (s : ByteArray) : bstr s.data.toList = s := by
  apply ByteArray.ext
  simp [bstr]
theorem bstr_nil : bstr [] = ⟨#[]⟩ := rfl
theorem bstr_toL (f : List UInt8) : (bstr f).toList = f := by rw [ByteArray.toList_eq]; simp [bstr]
theorem bstr_ne {f : List UInt8} (h : f ≠ []) : (bstr f).toList.isEmpty = false ∧ ¬ ((bstr f).toList = []) := by
  rw [bstr_toL]
  exact ⟨by simpa using h, h⟩
/-- A new table's pieces. -/
def newL (f : List UInt8) : List Pc := if f = [] then [] else [⟨false, 0, f.length⟩]
def newT (f : List UInt8) (most : Int) : Tb := ⟨f, [], newL f, f.length, most, 0⟩
theorem newT_tx (f : List UInt8) (most : Int) : (newT f most).tx = f := by
  unfold Tb.tx newT newL
  simp only
  split
  · rename_i h; rw [h]; rfl
  · rw [txs_one]; simp [ptx]
theorem newT_ok {f : List UInt8} {most : Int} (hf : f.length ≤ 100000) (hm : -1000000 ≤ most ∧ most ≤ 1000000) : (newT f most).ok := by
  refine ⟨?_, ?_, hf, by simp [newT], ?_, by simp [newT], by simp [newT]; omega, hm⟩
  · intro q hq
    simp only [newT, newL] at hq ⊢
    split at hq
    · cases hq
    · rename_i h
      simp at hq
      subst hq
      exact ⟨List.length_pos_iff.2 h, by simp⟩
  · rw [newT_tx]; rfl
  · simp only [newT, newL]; split <;> simp
section
variable {w0 w : World} {R : List Asrt}
theorem cnew_full {f : List UInt8} (most : Int) (H : Owns w0 w R) (h : most < f.length) :
    Calls Tryz.prog 28 #[.string (bstr f), .int .i64 most] w (Ret (.tuple #[.pointer none, .int .i64 21]) w0 R) := by
  have hs := bstr_size f
  have HH := Lib.hid H
  clear H
  go_enter Tryz.func28, Tryz.ntmps28
  go_wp2_with fail
  go_ret2
  exact ⟨rfl, HH.out⟩
theorem cnew {f : List UInt8} (most : Int) (H : Owns w0 w R) (h : f.length ≤ most) (hf : f.length ≤ 100000) :
    Calls Tryz.prog 28 #[.string (bstr f), .int .i64 most] w (RetX (fun p : Nat => .tuple #[.pointer (some ⟨p, 0, none⟩), .int .i64 0]) w0 (fun p => tabA p (newT f most) :: R)) := by
  have hs := bstr_size f
  have h' : ¬ (most < (f.length : Int)) := by omega
  have hnew := o_new_pc (.slice none 0 0) 0 [] H Reads.nil (by simp) (by omega)
  have Hnew := Lib.hid hnew
  clear H hnew
  go_enter Tryz.func28, Tryz.ntmps28
  by_cases hnil : f = []
  · subst hnil
    have hb := bstr_nil
    go_wp2_with fail
    refine Hnew.out.mono ?_
    rintro e w1 ⟨v, rfl, h1⟩
    have h2 := ((h1.rowNil 5 1).alloc #[.string (bstr []), .slice none 0 0, .pointer (some ⟨v, 0, none⟩), .int .i64 (([] : List UInt8).length : Int), .int .i64 most, .int .i64 0] 89)
    have H2 := Lib.hid (tabI (T := newT [] most) (aa := none) (ac := 0) h2)
    clear h1 h2 Hnew
    go_wp2_with fail
    go_ret2
    exact ⟨_, rfl, H2.out⟩
  · obtain ⟨hb1, hb2⟩ := bstr_ne hnil
    go_wp2_with fail
    refine Hnew.out.mono ?_
    rintro e w1 ⟨v, rfl, h1⟩
    have h2 := ((h1.rowNil 5 1).alloc #[.string (bstr f), .slice none 0 0, .pointer (some ⟨v, 0, none⟩), .int .i64 f.length, .int .i64 most, .int .i64 0] 89)
    have k2 : (w1.alloc (.cells #[.string (bstr f), .slice none 0 0, .pointer (some ⟨v, 0, none⟩), .int .i64 f.length, .int .i64 most, .int .i64 0] 89)).cell? ⟨w1.heap.size, 2, none⟩ = some (.pointer (some ⟨v, 0, none⟩)) := h2.cell (j := 2) rfl
    have h3 := h2.alloc #[.bool false, .int .i64 0, .int .i64 f.length] 87
    rw [World.size_alloc] at h3
    have hins := o_insert_pc 0 (.slice (some ⟨w1.heap.size + 1, 0, none⟩) 1 1) [.bool false, .int .i64 0, .int .i64 f.length] (m := 1) h3.p3 (Reads.obj (b := w1.heap.size + 1) (k := 3) (n := 1) (t := 87) (f := (0, 0)) (cs := #[.bool false, .int .i64 0, .int .i64 f.length]) (by simp) (by decide) (by decide) (by simp)) (by simp) (by simp [Value.oneCell']) (Nat.le_refl _) (by decide)
    have Hins := Lib.hid hins
    clear h1 h2 h3 hins Hnew
    go_wp2_with fail
    refine Hins.out.mono ?_
    rintro e w2 ⟨rfl, h4⟩
    have h5 : Owns w0 w2 (tobj w1.heap.size v (newT f most) none 0 :: brow none 0 [] :: pcvec v (newL f) :: R) := by
      rw [newL, if_neg hnil]
      exact (h4.ord [1, 1, 1, 0]).drop
    have H5 := Lib.hid (tabI h5)
    clear h4 h5 k2 Hins
    go_wp2_with fail
    go_ret2
    exact ⟨_, rfl, H5.out⟩
theorem clen {p : Nat} {T : Tb} (H : Owns w0 w (tabA p T :: R)) : Calls Tryz.prog 52 #[.pointer (some ⟨p, 0, none⟩)] w fun e w' => e = .returned (.int .i64 T.size) ∧ w = w' := by
  obtain ⟨v, aa, ac, h⟩ := tabE H
  have k : w.cell? ⟨p, 3, none⟩ = some (.int .i64 T.size) := h.cell (j := 3) rfl
  clear H h
  go_enter Tryz.func52, Tryz.ntmps52
  go_wp2_with fail
  go_ret
  exact ⟨rfl, rfl⟩
theorem cedits {p : Nat} {T : Tb} (H : Owns w0 w (tabA p T :: R)) : Calls Tryz.prog 41 #[.pointer (some ⟨p, 0, none⟩)] w fun e w' => e = .returned (.int .i64 T.edits) ∧ w = w' := by
  obtain ⟨v, aa, ac, h⟩ := tabE H
  have k : w.cell? ⟨p, 5, none⟩ = some (.int .i64 T.edits) := h.cell (j := 5) rfl
  clear H h
  go_enter Tryz.func41, Tryz.ntmps41
  go_wp2_with fail
  go_ret
  exact ⟨rfl, rfl⟩
theorem cpieces {p : Nat} {T : Tb} (H : Owns w0 w (tabA p T :: R)) : Calls Tryz.prog 40 #[.pointer (some ⟨p, 0, none⟩)] w fun e w' => e = .returned (.int .i64 T.L.length) ∧ w = w' := by
  obtain ⟨v, aa, ac, h⟩ := tabE H
  have k : w.cell? ⟨p, 2, none⟩ = some (.pointer (some ⟨v, 0, none⟩)) := h.cell (j := 2) rfl
  have hl := o_len_pc h.p2
  have Hl := Lib.hid hl
  clear H h hl
  go_enter Tryz.func40, Tryz.ntmps40
  go_wp2_with (go_at_call 64; refine Hl.out.mono ?_; rintro e w' ⟨rfl, rfl⟩)
  go_ret
  exact ⟨rfl, rfl⟩
end
end Go.Proofs.YtcdoomlagmddcaaGreatDoor
