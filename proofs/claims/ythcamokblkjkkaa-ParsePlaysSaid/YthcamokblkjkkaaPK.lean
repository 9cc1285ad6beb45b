/- A parser of keys: its state as plain data; the small functions of the program. -/
import Derived.Test.YthcamokblkjkkaaChecked
import Derived.Test.YthcamokblkjkkaaRangeO
import Derived.Test.YthcamokblkjkkaaKit
import Derived.Test.YthcamokblkjkkaaShelf
import Derived.Handy
import Derived.WalkSpells
import Derived.Laws.IdiomStrings
import Derived.Deep.RegionHeld3
import Derived.Deep.DrawnRows
import Derived.Deep.QuietTactic
import Derived.BigQuiet
import Derived.StillTailTactics
import Derived.Deep.DeepCutAuto
import Derived.Deep.CutBlock
namespace Go.Proofs.Ythcamokblkjkkaa
open Go Go.RowKit Go.Fol
set_option linter.unusedVariables false
set_option linter.unusedSimpArgs false
/-- A parser's state. -/
structure PSt where
  state : Int
  opn : Bool
  visual : Bool
  first : Bool
  reg : Int
  count : Int
  op : ByteArray
  name : ByteArray
  arg : Int
  text : ByteArray
  an : Nat
  aany : Bool
  bn : Nat
  bany : Bool
abbrev PSt.cells (s : PSt) : Array Value := #[.int .i64 s.state, .bool s.opn, .bool s.visual, .bool s.first, .int .u8 s.reg, .int .i64 s.count, .string s.op, .string s.name, .int .u8 s.arg, .string s.text, .int .i64 s.an, .bool s.aany, .int .i64 s.bn, .bool s.bany]
abbrev pobj (p : Nat) (s : PSt) : Asrt := Asrt.obj p (.cells s.cells 54 (0, 0))
def pzero : PSt := { state := 0, opn := false, visual := false, first := false, reg := 0, count := 0, op := ⟨#[]⟩, name := ⟨#[]⟩, arg := 0, text := ⟨#[]⟩, an := 0, aany := false, bn := 0, bany := false }
/-- a byte's string. -/
def str1 (c : Int) : ByteArray := ⟨#[UInt8.ofNat c.toNat]⟩
/-- g, and a byte's. -/
def strg (c : Int) : ByteArray := ⟨#[103, UInt8.ofNat c.toNat]⟩
theorem conv_byte (a : Nat) (c : Int) (W : World) (h0 : 0 ≤ c) (hc : c ≤ 255) (h : W.cell? ⟨a, 0, none⟩ = some (.int .u8 c)) :
    (convert 22 9 (.slice (some ⟨a, 0, none⟩) 1 1)).run Try.prog W = .ok (.string (str1 c)) W := by
  have := run_convert_bytes_back (P := Try.prog) W 22 9 5 ⟨a, 0, none⟩ 1 [UInt8.ofNat c.toNat] Try.underlying22 Try.underlying5 Try.underlying9 (fun j hj => by
    simp at hj
    subst hj
    rw [Addr.add_lit, Nat.zero_add, h]
    simp
    omega)
  exact this
theorem strg_eq (c : Int) : (⟨#[103]⟩ : ByteArray) ++ str1 c = strg c := rfl
section
variable {w0 w : World} {R : List Asrt}
theorem Owns.pset {p : Nat} {s : PSt} (H : Owns w0 w (pobj p s :: R)) (s' : PSt) (j : Nat) (u : Value) (h : s.cells.setIfInBounds j u = s'.cells) : Owns w0 (w.setCell ⟨p, j, none⟩ u) (pobj p s' :: R) := by
  have := H.set j u
  rw [h] at this
  exact this
theorem pdone {p : Nat} {s : PSt} (nm : ByteArray) (H : Owns w0 w (pobj p s :: R)) :
    Calls Try.prog 38 #[.pointer (some ⟨p, 0, none⟩), .string nm] w (Ret (.int .i64 1) w0 (pobj p { s with name := nm } :: R)) := by
  have k := H.cell (j := 7) rfl
  have f := H.frozen 7
  have H2 := Lib.hid (H.set 7 (.string nm))
  clear H
  go_enter Try.func38, Try.ntmps38
  go_wp2_with fail
  go_ret
  exact ⟨rfl, H2.out⟩
theorem pgoes {p : Nat} {s : PSt} (st : Int) (H : Owns w0 w (pobj p s :: R)) :
    Calls Try.prog 40 #[.pointer (some ⟨p, 0, none⟩), .int .i64 st] w (Ret (.int .i64 0) w0 (pobj p { s with state := st } :: R)) := by
  have k := H.cell (j := 0) rfl
  have f := H.frozen 0
  have H2 := Lib.hid (H.set 0 (.int .i64 st))
  clear H
  go_enter Try.func40, Try.ntmps40
  go_wp2_with fail
  go_ret
  exact ⟨rfl, H2.out⟩
theorem pnamed {p : Nat} {c : Int} {s : PSt} (st : Int) (h0 : 0 ≤ c) (hc : c ≤ 255) (H : Owns w0 w (pobj p s :: R)) :
    Calls Try.prog 55 #[.pointer (some ⟨p, 0, none⟩), .int .u8 c, .int .i64 st] w (Ret (.int .i64 0) w0 (pobj p { s with name := str1 c, state := st } :: R)) := by
  have H1 := (H.alloc #[.int .u8 c] 5).p1
  have k := H1.cell (j := 7) rfl
  have f := H1.frozen 7
  have H2 := Lib.hid (pgoes st (Owns.pset H1 { s with name := str1 c } 7 (.string (str1 c)) rfl))
  have hcv := fun a W h => conv_byte a c W h0 hc h
  clear H H1
  go_enter Try.func55, Try.ntmps55
  go_wp2_with fail
  refine H2.out.mono ?_
  rintro e w' ⟨rfl, h⟩
  have HH := Lib.hid h
  clear h
  go_wp2_with fail
  go_ret
  exact ⟨rfl, HH.out.p1.drop⟩
/-- What is behind g of a motion. -/
def farF (s : PSt) (c : Int) : Int × PSt := if c == 103 || c == 101 || c == 69 then (1, { s with name := strg c }) else (2, s)
theorem pfar {p : Nat} {c : Int} {s : PSt} (h0 : 0 ≤ c) (hc : c ≤ 255) (H : Owns w0 w (pobj p s :: R)) {r : Int} {s' : PSt} (hF : farF s c = (r, s')) :
    Calls Try.prog 41 #[.pointer (some ⟨p, 0, none⟩), .int .u8 c] w (Ret (.int .i64 r) w0 (pobj p s' :: R)) := by
  have HH := Lib.hid H
  have HF := Lib.hid hF
  have hcv := fun a W h => conv_byte a c W h0 hc h
  have hsg := strg_eq
  clear H hF
  go_enter Try.func41, Try.ntmps41
  go_wp2_with fail
  all_goals
    have hF := HF.out
    simp only [farF, *, Bool.true_or, Bool.or_true, Bool.false_or, if_true, if_false, Bool.false_eq_true] at hF
    cases hF
    first
      | ((with_reducible refine (pdone _ (HH.out.alloc _ _).p1).mono ?_); rintro e w' ⟨rfl, h⟩; have HE := Lib.hid h; clear h; go_wp2_with fail; go_ret; exact ⟨rfl, HE.out.p1.drop⟩)
      | (go_ret; exact ⟨rfl, HH.out⟩)
end
end Go.Proofs.Ythcamokblkjkkaa
