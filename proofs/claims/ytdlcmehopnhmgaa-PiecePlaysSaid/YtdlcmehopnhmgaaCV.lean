/- The example of the laws on pieces holds. -/
import Derived.Test.YtdlcmehopnhmgaaCS
namespace Go.Proofs.Ytdlcmehopnhmgaa
open Go Go.RowKit Go.Fol
attribute [local go_sem ↓] Go.wp_at_zero Go.wp_at_succ
set_option linter.unusedVariables false
set_option linter.unusedSimpArgs false
section
variable {w0 w : World} {R : List Asrt}
theorem cnew' {f : List UInt8} {s : ByteArray} (hs : s = bstr f) (most : Int) (H : Owns w0 w R) (h : f.length ≤ most) (hf : f.length ≤ 100000) :
    Calls Try.prog 10 #[.string s, .int .i64 most] w (RetX (fun p : Nat => .tuple #[.pointer (some ⟨p, 0, none⟩), .int .i64 0]) w0 (fun p => tabA p (newT f most) :: R)) := by
  subst hs; exact cnew most H h hf
/-- Insert, whatever is put in. -/
theorem cinsert {p : Nat} {T : Tb} {s : List UInt8} (off : Nat) (H : Owns w0 w (tabA p T :: R)) (hT : T.ok) (ho : off ≤ T.size) (h : s.length ≤ T.most - T.size) (hs : s ≠ []) (ha : T.added.length + s.length ≤ 90000) (hl : T.L.length ≤ 90000) (he : T.edits ≤ 90000) :
    Calls Try.prog 11 #[.pointer (some ⟨p, 0, none⟩), .int .i64 off, .string (bstr s)] w (RetX (fun _ : Tb => .int .i64 0) w0 (fun T' => Asrt.pure (InsR T off s T' ∧ T'.ok) :: tabA p T' :: R)) := by
  refine (cins off H hT ho h hs (by omega)).mono ?_
  rintro e w' ⟨T', rfl, h1⟩
  obtain ⟨hi, h2⟩ := h1.pureE
  have hm := hT.most
  exact ⟨T', rfl, h2.pureI ⟨hi, hi.ok hT (by omega) hl he (by omega) ho⟩⟩
set_option maxHeartbeats 2000000 in
theorem known_true (H : Owns w0 w R) : Calls Try.prog 9 #[] w (Ret (.bool true) w0 R) := by
  have HH := Lib.hid H
  clear H
  go_enter Try.func9, Try.ntmps9
  go_wp2_with fail
  refine (cnew' (f := [97, 98]) rfl 9 HH.out (by decide) (by decide)).mono ?_
  rintro e w1 ⟨p, rfl, h1⟩
  have hT0 : (newT [97, 98] 9).ok := newT_ok (by decide) (by decide)
  have H1 := Lib.hid h1
  clear h1 HH
  go_wp2_with fail
  have hin := cinsert (s := [120]) 1 H1.out hT0 (by decide) (by decide) (by decide) (by decide) (by decide) (by decide)
  have Hin := Lib.hid hin
  clear hin hT0
  refine Hin.out.mono ?_
  rintro e w2 ⟨T, rfl, h2⟩
  obtain ⟨⟨hi, hT⟩, h2⟩ := h2.pureE
  have htx : T.tx = [97, 120, 98] := by rw [hi.tx, newT_tx]; rfl
  have hsz : T.size = 3 := hi.size
  have hmo : T.most = 9 := hi.most
  have hle : T.L.length ≤ 3 := hi.len
  have hed : T.edits = 1 := hi.edits
  have hsl := cslice 0 3 h2 hT (by omega)
  rw [htx, show bstr (([97, 120, 98].drop 0).take 3) = ⟨#[97, 120, 98]⟩ from rfl] at hsl
  have HT := Lib.hid hT
  have Hsl := Lib.hid hsl
  clear h2 hsl hi hT htx H1 Hin
  go_wp2_with fail
  refine Hsl.out.mono ?_
  rintro e w3 ⟨rfl, h3⟩
  have hfu := cins_full (s := [48, 49, 50, 51, 52, 53, 54, 55, 56, 57]) 0 h3 HT.out (Nat.zero_le _) (by rw [hsz, hmo]; decide)
  rw [show bstr [48, 49, 50, 51, 52, 53, 54, 55, 56, 57] = ⟨#[48, 49, 50, 51, 52, 53, 54, 55, 56, 57]⟩ from rfl] at hfu
  have Hfu := Lib.hid hfu
  clear h3 hfu Hsl
  go_wp2_with fail
  refine Hfu.out.mono ?_
  rintro e w4 ⟨rfl, h4⟩
  have hou := cslice_out 2 2 h4 HT.out (by simp [reachB, hsz])
  have Hou := Lib.hid hou
  clear h4 hou Hfu
  go_wp2_with fail
  refine Hou.out.mono ?_
  rintro e w5 ⟨rfl, h5⟩
  have hle' : (T.L.length : Int) ≤ 3 := by omega
  have l1 := clen h5
  have l2 := cedits h5
  have l3 := cpieces h5
  rw [hsz] at l1
  rw [hed] at l2
  have L1 := Lib.hid l1
  have L2 := Lib.hid l2
  have L3 := Lib.hid l3
  have Hend := Lib.hid h5.drop
  clear h5 l1 l2 l3 Hou
  go_wp2_with fail
  refine L1.out.mono ?_
  rintro e w6 ⟨rfl, rfl⟩
  clear L1
  go_wp2_with fail
  refine L2.out.mono ?_
  rintro e w6 ⟨rfl, rfl⟩
  clear L2
  go_wp2_with fail
  refine L3.out.mono ?_
  rintro e w6 ⟨rfl, rfl⟩
  clear L3
  go_wp2_with fail
  go_ret
  exact ⟨rfl, Hend.out⟩
end
end Go.Proofs.Ytdlcmehopnhmgaa
