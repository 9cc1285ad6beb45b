/- The example of the laws on pieces holds. -/
import Derived.Test.YtcdoomlagmddcaaGreatDoorCS
namespace Go.Proofs.YtcdoomlagmddcaaGreatDoor
open Go Go.RowKit Go.Fol
attribute [local go_sem ↓] Go.wp_at_zero Go.wp_at_succ
set_option linter.unusedVariables false
set_option linter.unusedSimpArgs false
section
variable {w0 w : World} {R : List Asrt}
theorem cnew' {f : List UInt8} {s : ByteArray} (hs : s = bstr f) (most : Int) (H : Owns w0 w R) (h : f.length ≤ most) (hf : f.length ≤ 100000) :
    Calls Tryz.prog 28 #[.string s, .int .i64 most] w (RetX (fun p : Nat => .tuple #[.pointer (some ⟨p, 0, none⟩), .int .i64 0]) w0 (fun p => tabA p (newT f most) :: R)) := by
  subst hs; exact cnew most H h hf
/-- Insert, whatever is put in. -/
theorem cinsert {p : Nat} {T : Tb} {s : List UInt8} (off : Nat) (H : Owns w0 w (tabA p T :: R)) (hT : T.ok) (ho : off ≤ T.size) (h : s.length ≤ T.most - T.size) (hs : s ≠ []) (ha : T.added.length + s.length ≤ 90000) (hl : T.L.length ≤ 90000) (he : T.edits ≤ 90000) :
    Calls Tryz.prog 56 #[.pointer (some ⟨p, 0, none⟩), .int .i64 off, .string (bstr s)] w (RetX (fun _ : Tb => .int .i64 0) w0 (fun T' => Asrt.pure (InsR T off s T' ∧ T'.ok) :: tabA p T' :: R)) := by
  refine (cins off H hT ho h hs (by omega)).mono ?_
  rintro e w' ⟨T', rfl, h1⟩
  obtain ⟨hi, h2⟩ := h1.pureE
  have hm := hT.most
  exact ⟨T', rfl, h2.pureI ⟨hi, hi.ok hT (by omega) hl he (by omega) ho⟩⟩
end
end Go.Proofs.YtcdoomlagmddcaaGreatDoor
