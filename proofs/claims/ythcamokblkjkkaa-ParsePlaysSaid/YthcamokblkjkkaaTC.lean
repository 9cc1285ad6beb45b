/- The document's small functions on keys: has, number, register, bell, wait, object, named. -/
import Derived.Test.YthcamokblkjkkaaTB
namespace Go.Proofs.Ythcamokblkjkkaa
open Go Go.RowKit Go.Fol
attribute [local go_sem ↓] Go.wp_at_zero Go.wp_at_succ
attribute [local go_sem ↓] run_min2 run_max2
set_option linter.unusedVariables false
set_option linter.unusedSimpArgs false
def hasB (l : List UInt8) (c : Int) : Bool := l.any (fun x => (x.toNat : Int) == c)
theorem thas (s : ByteArray) (c : Int) (w : World) (hs : s.size ≤ 1000) : Calls Try.prog 32 #[.string s, .int .u8 c] w fun e w' => e = .returned (.bool (hasB s.data.toList c)) ∧ w = w' := by
  obtain ⟨b, hb⟩ : ∃ b, b = hasB s.data.toList c := ⟨_, rfl⟩
  rw [← hb]
  have Hb := Lib.hid hb
  clear hb
  go_enter Try.func32, Try.ntmps32
  go_wp2_with fail
  go_loop [5] (fun q => ∃ i : Nat, i ≤ s.size ∧ q = .int .i64 i ∧ b = hasB (s.data.toList.drop i) c) (fun q => s.size - (intOf q).toNat)
  case atStart => exact ⟨0, Nat.zero_le _, rfl, Hb.out⟩
  case round =>
    obtain ⟨i, hi, rfl, hr⟩ := hrel
    by_cases hlt : i < s.size
    · have hdr : s.data.toList.drop i = s[i] :: s.data.toList.drop (i + 1) := by rw [List.drop_eq_getElem_cons (by simpa using hlt)]; rfl
      rw [hdr] at hr
      by_cases hx : ((s[i].toNat : Int) == c) = true
      · have hbt : b = true := by rw [hr, hasB, List.any_cons, hx]; rfl
        subst hbt
        clear hr hdr
        go_wp2
        go_ret
        exact ⟨rfl, rfl⟩
      · have hx' : ((s[i].toNat : Int) == c) = false := by simpa using hx
        have Hr := Lib.hid (show b = hasB (s.data.toList.drop (i + 1)) c by rw [hr, hasB, List.any_cons, hx']; rfl)
        clear hr hdr hx
        go_wp2
        go_round
        case rel => exact ⟨i + 1, by omega, by go_num, Hr.out⟩
        case measure => simp [intOf]; omega
    · obtain rfl : i = s.size := by omega
      have hbf : b = false := by rw [hr, List.drop_eq_nil_of_le (by simp)]; rfl
      subst hbf
      clear hr
      go_wp2
      go_ret
      exact ⟨rfl, rfl⟩
theorem ix_byte {p q : Int → Bool} (h : ∀ n : Nat, n < 256 → p n = q n) {c : Int} (h0 : 0 ≤ c) (hc : c ≤ 255) : p c = q c := by
  have := h c.toNat (by omega)
  rwa [Int.toNat_of_nonneg h0] at this
theorem has_op {c : Int} (h0 : 0 ≤ c) (hc : c ≤ 255) : hasB [100, 99, 121, 60, 62] c = opB c := ix_byte (p := hasB [100, 99, 121, 60, 62]) (by decide +kernel) h0 hc
theorem has_til {c : Int} (h0 : 0 ≤ c) (hc : c ≤ 255) : hasB [126, 117, 85] c = tilB c := ix_byte (p := hasB [126, 117, 85]) (by decide +kernel) h0 hc
theorem has_ge {c : Int} (h0 : 0 ≤ c) (hc : c ≤ 255) : hasB [103, 101, 69] c = geB c := ix_byte (p := hasB [103, 101, 69]) (by decide +kernel) h0 hc
theorem has_tc {c : Int} (h0 : 0 ≤ c) (hc : c ≤ 255) : hasB [102, 70, 116, 84, 39, 96] c = tcB c := ix_byte (p := hasB [102, 70, 116, 84, 39, 96]) (by decide +kernel) h0 hc
theorem has_simple {c : Int} (h0 : 0 ≤ c) (hc : c ≤ 255) : hasB simpleU c = simpleB c := ix_byte (p := hasB simpleU) (by decide +kernel) h0 hc
theorem has_cmd {c : Int} (h0 : 0 ≤ c) (hc : c ≤ 255) : hasB [105, 97, 73, 65, 111, 79, 82, 120, 88, 115, 83, 68, 67, 89, 112, 80, 74, 126, 117, 46, 118, 86] c = cmd1 c := ix_byte (p := hasB [105, 97, 73, 65, 111, 79, 82, 120, 88, 115, 83, 68, 67, 89, 112, 80, 74, 126, 117, 46, 118, 86]) (by decide +kernel) h0 hc
theorem has_sel {c : Int} (h0 : 0 ≤ c) (hc : c ≤ 255) : hasB [100, 120, 121, 99, 115, 60, 62, 126, 117, 85, 74, 111, 118, 86, 73, 65] c = sel1 c := ix_byte (p := hasB [100, 120, 121, 99, 115, 60, 62, 126, 117, 85, 74, 111, 118, 86, 73, 65]) (by decide +kernel) h0 hc
theorem tregister (c : Int) (w : World) : Calls Try.prog 34 #[.int .u8 c] w fun e w' => e = .returned (.bool (regB c)) ∧ w = w' := by
  obtain ⟨b, hb⟩ : ∃ b, b = regB c := ⟨_, rfl⟩
  rw [← hb]
  have Hb := Lib.hid hb
  clear hb
  go_enter Try.func34, Try.ntmps34
  go_wp2_with fail
  all_goals
    have hb := Hb.out
    subst hb
    go_ret
    refine ⟨?_, rfl⟩
    show Ending.returned (Value.bool _) = _
    refine congrArg (fun b => Ending.returned (Value.bool b)) ?_
    rw [Bool.eq_iff_iff]
    simp only [regB, Bool.or_eq_true, Bool.and_eq_true, decide_eq_true_eq, beq_iff_eq, true_iff]
    omega
theorem tobject (c : Int) (w : World) : Calls Try.prog 51 #[.int .u8 c] w fun e w' => e = .returned (.int .u8 (objB c)) ∧ w = w' := by
  obtain ⟨b, hb⟩ : ∃ b, b = objB c := ⟨_, rfl⟩
  rw [← hb]
  have Hb := Lib.hid hb
  clear hb
  go_enter Try.func51, Try.ntmps51
  go_wp2_with fail
  all_goals try exact tf (by assumption) (by assumption)
  all_goals
    have hb := Hb.out
    simp only [objB, *, Bool.true_or, Bool.or_true, Bool.false_or, if_true, if_false, Bool.false_eq_true] at hb
    subst hb
    clear Hb
    go_ret
    exact ⟨rfl, rfl⟩
section
variable {w0 w : World} {R : List Asrt}
theorem tbell (H : Owns w0 w R) : Calls Try.prog 35 #[] w (Ret (.tuple #[.int .i64 2, .agg czero.cells]) w0 R) := by
  have HH := Lib.hid (H.alloc czero.cells 33)
  clear H
  go_enter Try.func35, Try.ntmps35
  go_wp2_with fail
  exact bodyPost_ret (v := .tuple #[.int .i64 2, .agg czero.cells]) (by simp [results, Try.results35, go_sem, czero]) rfl ⟨rfl, HH.out.drop⟩
theorem twait (H : Owns w0 w R) : Calls Try.prog 33 #[] w (Ret (.tuple #[.int .i64 0, .agg czero.cells]) w0 R) := by
  have HH := Lib.hid (H.alloc czero.cells 33)
  clear H
  go_enter Try.func33, Try.ntmps33
  go_wp2_with fail
  exact bodyPost_ret (v := .tuple #[.int .i64 0, .agg czero.cells]) (by simp [results, Try.results33, go_sem, czero]) rfl ⟨rfl, HH.out.drop⟩
theorem tnamed {c : Int} (h0 : 0 ≤ c) (hc : c ≤ 255) (H : Owns w0 w R) : Calls Try.prog 60 #[.int .u8 c] w (Ret (.string (namedF c)) w0 R) := by
  obtain ⟨b, hb⟩ : ∃ b, b = namedF c := ⟨_, rfl⟩
  rw [← hb]
  have Hb := Lib.hid hb
  have HH := Lib.hid H
  have hcv := fun a W h => conv_byte a c W h0 hc h
  clear hb H
  go_enter Try.func60, Try.ntmps60
  go_wp2_with fail
  all_goals
    have hb := Hb.out
    simp only [namedF, *, if_true, if_false, Bool.false_eq_true] at hb
    subst hb
    clear Hb
    go_ret
    exact ⟨rfl, by first | exact HH.out | exact HH.out.alloc0 _⟩
end
end Go.Proofs.Ythcamokblkjkkaa
