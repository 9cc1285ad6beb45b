/- A parser of keys: names of motions; control, count, digits. -/
import Derived.Test.YthcamokblkjkkaaPK
namespace Go.Proofs.Ythcamokblkjkkaa
open Go Go.RowKit Go.Fol
attribute [local go_sem ↓] run_min2 run_max2
set_option linter.unusedVariables false
set_option linter.unusedSimpArgs false
/-- Motions of one byte. -/
def simpleU : List UInt8 := [104, 106, 107, 108, 43, 45, 95, 48, 94, 36, 124, 119, 87, 98, 66, 101, 69, 59, 44, 71, 72, 77, 76, 37, 40, 41, 123, 125, 110, 78, 42, 35]
def simpleS : ByteArray := ⟨#[104, 106, 107, 108, 43, 45, 95, 48, 94, 36, 124, 119, 87, 98, 66, 101, 69, 59, 44, 71, 72, 77, 76, 37, 40, 41, 123, 125, 110, 78, 42, 35]⟩
def simpleB (c : Int) : Bool := ([104, 106, 107, 108, 43, 45, 95, 48, 94, 36, 124, 119, 87, 98, 66, 101, 69, 59, 44, 71, 72, 77, 76, 37, 40, 41, 123, 125, 110, 78, 42, 35] : List Int).contains c
theorem simpleB_ix : ∀ x : Nat, x < 256 → decide (0 ≤ Lib.indexByte simpleU (UInt8.ofNat x)) = simpleB (x : Int) := by decide +kernel
theorem simpleB_byte (x : UInt8) : decide (0 ≤ Lib.indexByte simpleU x) = simpleB (x.toNat : Int) := by
  have := simpleB_ix x.toNat x.toNat_lt
  rwa [UInt8.ofNat_toNat] at this
theorem tf {P : Prop} {b : Bool} (h : b = true) (h' : b = false) : P := by rw [h] at h'; cases h'
def oneB : List UInt8 → Bool
  | [x] => simpleB (x.toNat : Int)
  | _ => false
/-- Is it a motion's name? -/
def motionB (l : List UInt8) : Bool :=
  l == [103, 103] || l == [103, 101] || l == [103, 69] || l == [102] || l == [70] || l == [116] || l == [84] || l == [39] || l == [96] || l == [47] || l == [63] ||
    oneB l
theorem motionB_one (x : UInt8) : motionB [x] = (x == 102 || x == 70 || x == 116 || x == 84 || x == 39 || x == 96 || x == 47 || x == 63 || simpleB (x.toNat : Int)) := by simp [motionB, oneB]
theorem pMotion (nm : ByteArray) (w : World) (hsz : nm.size ≤ 1000000) : Calls Try.prog 21 #[.string nm] w fun e w' => e = .returned (.bool (motionB nm.toList)) ∧ w = w' := by
  obtain ⟨b, hb⟩ : ∃ b, b = motionB nm.toList := ⟨_, rfl⟩
  rw [← hb]
  by_cases h1 : nm.size = 1
  · obtain ⟨x, rfl⟩ : ∃ x, nm = ⟨#[x]⟩ := by
      obtain ⟨d⟩ := nm
      obtain ⟨l⟩ := d
      match l, h1 with
      | [x], _ => exact ⟨x, rfl⟩
    have hsi : (((⟨#[x]⟩ : ByteArray).size : Nat) : Int) = 1 := rfl
    rw [ByteArray.toList_eq] at hb
    replace hb : b = motionB [x] := hb
    rw [motionB_one] at hb
    have Hb := Lib.hid hb
    clear hb h1 hsz
    go_enter Try.func21, Try.ntmps21
    go_wp2_with fail
    all_goals try exact tf (by assumption) (by assumption)
    all_goals
      have hb := Hb.out
      simp only [*, Bool.true_or, Bool.or_true, Bool.false_or] at hb
    all_goals first | (go_ret; exact ⟨by subst hb; rfl, rfl⟩) | skip
    refine (Try.strings_Contains_one simpleS x _).mono ?_
    rintro e w' ⟨rfl, rfl⟩
    have hb : b = decide (0 ≤ Lib.indexByte simpleU x) := by rw [hb, simpleB_byte]
    subst hb
    clear Hb
    go_wp2_with fail
    go_ret
    exact ⟨rfl, rfl⟩
  · have hsi : ¬ ((nm.size : Int) = 1) := by omega
    have hl : oneB nm.toList = false := by
      unfold oneB
      split
      · rename_i x h
        refine absurd ?_ h1
        rw [ByteArray.toList_eq] at h
        have := congrArg List.length h
        simpa using this
      · rfl
    rw [motionB, hl] at hb
    have Hb := Lib.hid hb
    clear h1 hl hb
    go_enter Try.func21, Try.ntmps21
    go_wp2_with fail
    all_goals try exact tf (by assumption) (by assumption)
    all_goals
      have hb := Hb.out
      simp only [*, Bool.true_or, Bool.or_true, Bool.false_or] at hb
      go_ret
      exact ⟨by subst hb; rfl, rfl⟩
end Go.Proofs.Ythcamokblkjkkaa
