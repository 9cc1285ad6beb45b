/- Names of keys: plain data; the document's Name. -/
import Derived.Test.YthcamokblkjkkaaChecked
import Derived.Test.YthcamokblkjkkaaRangeO
import Derived.Test.YthcamokblkjkkaaKit
import Derived.Handy
import Derived.WalkSpells
import Derived.Laws.IdiomStrings
import Derived.Deep.RegionHeld3
import Derived.Deep.DrawnRows
import Derived.Deep.QuietTactic
import Derived.BigQuiet
import Derived.StillTailTactics
import Derived.Deep.DeepCutAuto
import Derived.Deep.CutBlock
namespace Go.Proofs.Ythcamokblkjkkaa
open Go Go.RowKit Go.Fol
set_option linter.unusedVariables false
set_option linter.unusedSimpArgs false
/-- a byte's string. -/
def kstr1 (c : Int) : ByteArray := ⟨#[UInt8.ofNat c.toNat]⟩
/-- a digit of base 16. -/
def hxd (d : Nat) : UInt8 := ([48, 49, 50, 51, 52, 53, 54, 55, 56, 57, 97, 98, 99, 100, 101, 102] : List UInt8).getD d 0
/-- A key's name. -/
def nameL (c : Int) : List UInt8 :=
  if c == 27 then [60, 69, 115, 99, 62] else if c == 13 then [60, 67, 82, 62] else if c == 10 then [60, 78, 76, 62] else if c == 9 then [60, 84, 97, 98, 62]
  else if c == 8 then [60, 66, 83, 62] else if c == 127 then [60, 68, 101, 108, 62] else if c == 60 then [60, 108, 116, 62]
  else if decide (c < 32) then [60, 67, 45, UInt8.ofNat (c + 64).toNat, 62] else if decide (128 ≤ c) then [60, 120, hxd (c / 16).toNat, hxd (c % 16).toNat, 62] else [UInt8.ofNat c.toNat]
def nameB (c : Int) : ByteArray := ⟨(nameL c).toArray⟩
theorem nameL_len (c : Int) : 1 ≤ (nameL c).length ∧ (nameL c).length ≤ 5 := by
  unfold nameL
  repeat (split; simp)
  simp
theorem nameB_size (c : Int) : (nameB c).size = (nameL c).length := rfl
theorem kconv_byte (a : Nat) (c : Int) (W : World) (h0 : 0 ≤ c) (hc : c ≤ 255) (h : W.cell? ⟨a, 0, none⟩ = some (.int .u8 c)) :
    (convert 22 9 (.slice (some ⟨a, 0, none⟩) 1 1)).run Try.prog W = .ok (.string (kstr1 c)) W := by
  have := run_convert_bytes_back (P := Try.prog) W 22 9 5 ⟨a, 0, none⟩ 1 [UInt8.ofNat c.toNat] Try.underlying22 Try.underlying5 Try.underlying9 (fun j hj => by
    simp at hj
    subst hj
    rw [Addr.add_lit, Nat.zero_add, h]
    simp
    omega)
  exact this
theorem kconv_two (a : Nat) (x y : UInt8) (W : World) (h0 : W.cell? ⟨a, 0, none⟩ = some (.int .u8 x.toNat)) (h1 : W.cell? ⟨a, 1, none⟩ = some (.int .u8 y.toNat)) :
    (convert 22 9 (.slice (some ⟨a, 0, none⟩) 2 2)).run Try.prog W = .ok (.string ⟨#[x, y]⟩) W := by
  have := run_convert_bytes_back (P := Try.prog) W 22 9 5 ⟨a, 0, none⟩ 2 [x, y] Try.underlying22 Try.underlying5 Try.underlying9 (fun j hj => by
    simp at hj
    rw [Addr.add_lit, Nat.zero_add]
    rcases (show j = 0 ∨ j = 1 by omega) with rfl | rfl
    · simpa using h0
    · simpa using h1)
  exact this
theorem name_hex2 (a b : UInt8) : (⟨#[60, 120]⟩ : ByteArray) ++ (⟨#[a, b]⟩ : ByteArray) ++ (⟨#[62]⟩ : ByteArray) = ⟨#[60, 120, a, b, 62]⟩ := rfl
theorem name_ctl (c : Int) : (⟨#[60, 67, 45]⟩ : ByteArray) ++ kstr1 (c + 64) ++ (⟨#[62]⟩ : ByteArray) = ⟨#[60, 67, 45, UInt8.ofNat (c + 64).toNat, 62]⟩ := rfl
theorem run_shr4 (c : Int) (h0 : 0 ≤ c) (hc : c ≤ 255) (w : World) : (binOp .shr 5 (.int .u8 c) (.int .u64 4)).run Try.prog w = .ok (.int .u8 (c / 16)) w := by
  rw [binOp_shr, shift_shr_u8]
  rfl
  · decide
  · decide
theorem and15 : ∀ n : Fin 256, bits .and .u8 (n.val : Int) 15 = (n.val : Int) % 16 := by decide +kernel
theorem run_and15 (c : Int) (h0 : 0 ≤ c) (hc : c ≤ 255) (w : World) : (binOp .and 5 (.int .u8 c) (.int .u8 15)).run Try.prog w = .ok (.int .u8 (c % 16)) w := by
  go_simp
  have := and15 ⟨c.toNat, by omega⟩
  simpa [Int.toNat_of_nonneg h0] using this
abbrev hexB : ByteArray := ⟨#[48, 49, 50, 51, 52, 53, 54, 55, 56, 57, 97, 98, 99, 100, 101, 102]⟩
theorem hex_cut : ∀ n : Fin 16, hexB.extract n.val (n.val + 1) = ⟨#[hxd n.val]⟩ := by decide +kernel
theorem hex_at : ∀ n : Fin 16, hexB.get! n.val = hxd n.val := by decide +kernel
theorem run_hexcut (d : Int) (h0 : 0 ≤ d) (hd : d ≤ 15) (w : World) : (Instr.slice 9 (.string hexB) (some (.int .u8 d)) (some (.int .u8 (d + 1))) none).run Try.prog w = .ok (.string ⟨#[hxd d.toNat]⟩) w := by
  have hz : hexB.size = 16 := rfl
  rw [run_slice_string_if (h := Try.underlying9), if_pos (by rw [hz]; omega), if_pos (by omega)]
  have := hex_cut ⟨d.toNat, by omega⟩
  rw [show (d + 1).toNat = d.toNat + 1 by omega]
  simp only at this
  rw [this]
theorem run_hexat (d : Int) (h0 : 0 ≤ d) (hd : d ≤ 15) (w : World) : (Instr.index 9 (.string hexB) (.int .u8 d)).run Try.prog w = .ok (.int .u8 (hxd d.toNat).toNat) w := by
  have hz : hexB.size = 16 := rfl
  rw [run_index_string (h := Try.underlying9), dif_pos (by rw [hz]; omega)]
  have := hex_at ⟨d.toNat, by omega⟩
  simp only at this
  rw [← this]
  congr 3
  have : hexB.get! d.toNat = hexB[d.toNat]'(by rw [hz]; omega) := by
    show hexB.data[d.toNat]! = hexB.data[d.toNat]'_
    rw [getElem!_pos]
  rw [this]
theorem name_hex (a b : UInt8) : (⟨#[60, 120]⟩ : ByteArray) ++ (⟨#[a]⟩ : ByteArray) ++ (⟨#[b]⟩ : ByteArray) ++ (⟨#[62]⟩ : ByteArray) = ⟨#[60, 120, a, b, 62]⟩ := rfl
section
variable {w0 w : World} {R : List Asrt}
attribute [-go_sem] run_slice_string_if run_slice_string in
set_option maxHeartbeats 1000000 in
theorem wname {c : Int} (h0 : 0 ≤ c) (hc : c ≤ 255) (H : Owns w0 w R) : Calls Try.prog 58 #[.int .u8 c] w (Ret (.string (nameB c)) w0 R) := by
  have HH := Lib.hid H
  obtain ⟨nm, hnm⟩ : ∃ nm, nm = nameB c := ⟨_, rfl⟩
  rw [← hnm]
  have Hnm := Lib.hid hnm
  have hcv := fun a W h => kconv_byte a c W h0 hc h
  have hcv2 := fun a W h (h32 : c < 32) => kconv_byte a (c + 64) W (by omega) (by omega) h
  have hct := name_ctl
  have ht := name_hex
  have hd0 : 0 ≤ c / 16 := by omega
  have hd1 : c / 16 ≤ 15 := by omega
  have he0 : 0 ≤ c % 16 := by omega
  have he1 : c % 16 ≤ 15 := by omega
  have hs1 := run_shr4 c h0 hc
  have hs2 := run_and15 c h0 hc
  have hs3 := run_hexcut (c / 16) hd0 hd1
  have hs4 := run_hexcut (c % 16) he0 he1
  have hw1 : IntKind.u8.wrap (c / 16 + 1) = c / 16 + 1 := IntWalk.u8_in _ (by omega)
  have hw2 : IntKind.u8.wrap (c % 16 + 1) = c % 16 + 1 := IntWalk.u8_in _ (by omega)
  clear H hnm
  go_enter Try.func58, Try.ntmps58
  go_wp2_with fail
  all_goals
    have hF := Hnm.out
    try have g1 : decide (c < 32) = false := decide_eq_false (by omega)
    try have g2 : decide (128 ≤ c) = false := decide_eq_false (by omega)
    try have g3 : decide (128 ≤ c) = true := decide_eq_true (by omega)
    simp only [nameB, nameL, *, Bool.false_eq_true, if_true, if_false] at hF
  all_goals first
    | (go_ret; subst hF; first | exact ⟨rfl, HH.out⟩ | exact ⟨rfl, HH.out.alloc0 _⟩)
    | skip
  go_quiet (fail)
  go_wp2_with fail
  go_ret
  subst hF
  exact ⟨rfl, HH.out.drewN _⟩
end
end Go.Proofs.Ythcamokblkjkkaa
