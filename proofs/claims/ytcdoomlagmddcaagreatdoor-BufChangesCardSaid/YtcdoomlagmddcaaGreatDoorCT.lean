/- Piece tables: what an edit leaves; strings put together. -/
import Derived.Test.YtcdoomlagmddcaaGreatDoorCV
namespace Go.Proofs.YtcdoomlagmddcaaGreatDoor
open Go Go.RowKit Go.Fol
attribute [local go_sem ↓] Go.wp_at_zero Go.wp_at_succ
set_option linter.unusedVariables false
set_option linter.unusedSimpArgs false
set_option maxRecDepth 100000
/-- What an edit leaves: the text, how many edits, at most how much more is added. -/
structure Edit (T : Tb) (tx : List UInt8) (e a : Nat) (T' : Tb) : Prop where
  tx : T'.tx = tx
  ok : T'.ok
  most : T'.most = T.most
  ad : T'.added.length ≤ T.added.length + a
  len : T'.L.length ≤ T.L.length + 2 * e
  edits : T'.edits = T.edits + e
theorem run_cat {a b : List UInt8} (h : a.length + b.length ≤ 1000000) (w : World) : (Op.stringOp .add (bstr a) (bstr b)).run Tryz.prog w = .ok (.string (bstr (a ++ b))) w := by
  rw [run_string_add w _ _ (by rw [bstr_size]; omega) (by rw [bstr_size]; omega)]
  exact congrArg (fun x => Result.ok (Value.string x) w) (by apply ByteArray.ext; simp [bstr])
theorem ext_pre (f : List UInt8) (k : Nat) : (bstr f).extract 0 k = bstr (f.take k) := by rw [extract_bstr]; simp
theorem ext_suf {f : List UInt8} {k n : Nat} (h : n = f.length) : (bstr f).extract k n = bstr (f.drop k) := by
  subst h; rw [extract_bstr, List.take_of_length_le (by simp)]
section
variable {w0 w : World} {R : List Asrt}
theorem cins0 {p : Nat} {T : Tb} {s : List UInt8} (off : Nat) (H : Owns w0 w (tabA p T :: R)) (hT : T.ok) (ho : off ≤ T.size) (h : s.length ≤ T.most - T.size) (ha : T.added.length + s.length ≤ 90000) (hl : T.L.length ≤ 90000) (he : T.edits ≤ 90000) :
    Calls Tryz.prog 56 #[.pointer (some ⟨p, 0, none⟩), .int .i64 off, .string (bstr s)] w (RetX (fun _ : Tb => .int .i64 0) w0 (fun T' => Asrt.pure (Edit T (T.tx.take off ++ s ++ T.tx.drop off) (if s = [] then 0 else 1) s.length T') :: tabA p T' :: R)) := by
  by_cases hs : s = []
  · subst hs
    refine (cins_nil off H hT ho (by simp at h; omega)).mono ?_
    rintro e w' ⟨rfl, h1⟩
    exact ⟨T, rfl, h1.pureI ⟨by simp, hT, rfl, by simp, by simp, by simp⟩⟩
  · refine (cinsert off H hT ho h hs ha hl he).mono ?_
    rintro e w' ⟨T', rfl, h1⟩
    obtain ⟨⟨hi, hok⟩, h1⟩ := h1.pureE
    exact ⟨T', rfl, h1.pureI ⟨hi.tx, hok, hi.most, by rw [hi.added, List.length_append]; exact Nat.le_refl _, by rw [if_neg hs]; exact hi.len, by rw [if_neg hs]; exact hi.edits⟩⟩
end
end Go.Proofs.YtcdoomlagmddcaaGreatDoor
