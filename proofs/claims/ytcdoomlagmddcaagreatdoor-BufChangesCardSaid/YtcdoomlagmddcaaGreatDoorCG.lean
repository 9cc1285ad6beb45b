/- Piece tables: what the laws keep. -/
import Derived.Test.YtcdoomlagmddcaaGreatDoorCE
namespace Go.Proofs.YtcdoomlagmddcaaGreatDoor
open Go Go.RowKit Go.Fol
attribute [local go_sem ↓] Go.wp_at_zero Go.wp_at_succ
attribute [-go_sem] Go.run_string_add_if
set_option linter.unusedVariables false
set_option linter.unusedSimpArgs false
/-- A table of this text, these edits, this most. -/
structure TbI (T : Tb) (tx : List UInt8) (ed : Nat) (most : Int) (ad : Nat) : Prop where
  ok : T.ok
  htx : T.tx = tx
  hed : T.edits = ed
  hmost : T.most = most
  had : T.added.length ≤ ad
  len : T.L.length ≤ 2 * ed + 1
theorem TbI.size {T : Tb} {tx : List UInt8} {ed : Nat} {most : Int} {ad : Nat} (h : TbI T tx ed most ad) : T.size = tx.length := by rw [h.ok.size, h.htx]
theorem TbI.new {f : List UInt8} {most : Int} (hf : f.length ≤ 100000) (hm : -1000000 ≤ most ∧ most ≤ 1000000) : TbI (newT f most) f 0 most 0 :=
  ⟨newT_ok hf hm, newT_tx _ _, rfl, rfl, Nat.le_refl _, by simp only [newT, newL]; split <;> simp⟩
theorem TbI.edit {T T' : Tb} {tx tx' : List UInt8} {ed e a : Nat} {most : Int} {ad : Nat} (h : TbI T tx ed most ad) (hE : Edit T tx' e a T') : TbI T' tx' (ed + e) most (ad + a) :=
  ⟨hE.ok, hE.tx, by rw [hE.edits, h.hed], by rw [hE.most, h.hmost], by have := hE.ad; have := h.had; omega, by have := hE.len; have := h.len; omega⟩
def one (b : Bool) : Nat := if b then 0 else 1
section
variable {w0 w : World} {R : List Asrt} {p : Nat} {T : Tb} {tx : List UInt8} {ed : Nat} {most : Int} {ad : Nat}
theorem ins_I {s : List UInt8} (off : Nat) (H : Owns w0 w (tabA p T :: R)) (hI : TbI T tx ed most ad) (ho : off ≤ tx.length) (h : s.length ≤ most - tx.length) (ha : ad + s.length ≤ 90000) (he : ed ≤ 40000) :
    Calls Tryz.prog 56 #[.pointer (some ⟨p, 0, none⟩), .int .i64 off, .string (bstr s)] w (RetX (fun _ : Tb => .int .i64 0) w0 (fun T' => Asrt.pure (TbI T' (tx.take off ++ s ++ tx.drop off) (ed + if s = [] then 0 else 1) most (ad + s.length)) :: tabA p T' :: R)) := by
  refine (cins0 off H hI.ok (by rw [hI.size]; exact ho) (by rw [hI.hmost, hI.size]; exact h) (by have := hI.had; omega) (by have := hI.len; omega) (by rw [hI.hed]; omega)).mono ?_
  rintro e w' ⟨T', rfl, h1⟩
  obtain ⟨hE, h1⟩ := h1.pureE
  rw [hI.htx] at hE
  exact ⟨T', rfl, h1.pureI (hI.edit hE)⟩
theorem ins_place (off : Int) {s : List UInt8} (H : Owns w0 w (tabA p T :: R)) (hI : TbI T tx ed most ad) (h : off < 0 ∨ tx.length < off) :
    Calls Tryz.prog 56 #[.pointer (some ⟨p, 0, none⟩), .int .i64 off, .string (bstr s)] w (Ret (.int .i64 20) w0 (tabA p T :: R)) := cins_place off H (by rw [hI.size]; exact h)
theorem ins_full (off : Nat) {s : List UInt8} (H : Owns w0 w (tabA p T :: R)) (hI : TbI T tx ed most ad) (ho : off ≤ tx.length) (h : most - tx.length < s.length) :
    Calls Tryz.prog 56 #[.pointer (some ⟨p, 0, none⟩), .int .i64 off, .string (bstr s)] w (Ret (.int .i64 21) w0 (tabA p T :: R)) := cins_full off H hI.ok (by rw [hI.size]; exact ho) (by rw [hI.hmost, hI.size]; exact h)
theorem del_I (off n : Nat) (H : Owns w0 w (tabA p T :: R)) (hI : TbI T tx ed most ad) (h : off + n ≤ tx.length) (he : ed ≤ 30000) :
    Calls Tryz.prog 54 #[.pointer (some ⟨p, 0, none⟩), .int .i64 off, .int .i64 n] w (RetX (fun _ : Tb => .int .i64 0) w0 (fun T' => Asrt.pure (TbI T' (tx.take off ++ tx.drop (off + n)) (ed + if n = 0 then 0 else 1) most ad) :: tabA p T' :: R)) := by
  refine (cdel0 off n H hI.ok (by rw [hI.size]; exact h) (by have := hI.len; omega) (by rw [hI.hed]; omega)).mono ?_
  rintro e w' ⟨T', rfl, h1⟩
  obtain ⟨hE, h1⟩ := h1.pureE
  rw [hI.htx] at hE
  exact ⟨T', rfl, h1.pureI (hI.edit hE)⟩
theorem del_out (off n : Int) (H : Owns w0 w (tabA p T :: R)) (hI : TbI T tx ed most ad) (h : ¬ (0 ≤ off ∧ 0 ≤ n ∧ off ≤ tx.length ∧ n ≤ tx.length - off)) :
    Calls Tryz.prog 54 #[.pointer (some ⟨p, 0, none⟩), .int .i64 off, .int .i64 n] w (Ret (.int .i64 20) w0 (tabA p T :: R)) :=
  cdel_out off n H hI.ok (by
    cases hr : reachB T off n
    · rfl
    · exact absurd (by have := (reach_iff T off n).1 hr; rw [hI.size] at this; exact this) h)
end
end Go.Proofs.YtcdoomlagmddcaaGreatDoor
