/- Lists of lines: how great they are, whether one is broken, held against others; put together, cut. -/
import Derived.Test.YtcdoomlagmddcaaGreatDoorBP
import Derived.Test.YtcdoomlagmddcaaGreatDoorChecked
import Derived.Test.YtcdoomlagmddcaaGreatDoorShelf
import Derived.Test.YtcdoomlagmddcaaGreatDoorRowStr
import Derived.Test.YtcdoomlagmddcaaGreatDoorKa
import Derived.Handy
import Derived.Shelf.Vars
import Derived.Deep.DrawnRows
import Derived.Deep.QuietTactic
import Derived.BigQuiet
import Derived.StillTailTactics
import Derived.Deep.DeepCutAuto
import Derived.Deep.CutBlock
namespace Go.Proofs.YtcdoomlagmddcaaGreatDoor
open Go Go.RowKit Go.Fol
attribute [local go_sem ↓] Go.wp_at_zero Go.wp_at_succ
set_option linter.unusedVariables false
set_option linter.unusedSimpArgs false
set_option maxRecDepth 100000
abbrev lstrs (L : Ls) : List Value := strs (L.map bs)
theorem lstrs_len (L : Ls) : (lstrs L).length = L.length := by simp [lstrs, strs]
theorem lstrs_one (L : Ls) : ∀ u ∈ lstrs L, u.oneCell' = true := by
  intro u hu
  simp only [lstrs, strs, List.map_map, List.mem_map] at hu
  obtain ⟨x, _, rfl⟩ := hu
  rfl
theorem lstrs_get {L : Ls} {i : Nat} {x : List UInt8} (h : L[i]? = some x) : (lstrs L)[i]? = some (.string (bs x)) := by simp [lstrs, strs, h]
theorem lstrs_append (A B : Ls) : lstrs (A ++ B) = lstrs A ++ lstrs B := by simp [lstrs, strs]
/-- The library's own variable holds some int. -/
def MaxInt (w : World) : Prop := ∃ m : Int, w.cell? ⟨0, 0, none⟩ = some (.int .i64 m)
theorem maxInt_of {w : World} (h : w.ShapedOpen Tryz.prog) : MaxInt w :=
  Go.Proofs.cell_of_shapedOpen_int (g := 0) (t := 3) h (by decide +kernel) (zero := #[.int .i64 0]) (by kernel_rfl) rfl (by kernel_rfl) (by kernel_rfl) Tryz.underlying3
theorem maxInt_keep {w w' : World} (h : MaxInt w) (c : Chg [] w w') : MaxInt w' := by
  obtain ⟨m, h⟩ := h
  exact ⟨m, c.cell h (by simp)⟩
/-- Lines that can be read. -/
abbrev RdL (w0 : World) (R : List Asrt) (v : Value) (L : Ls) : Prop := Reads w0 R 1 v L.length (lstrs L)
def hasLF (x : List UInt8) : Bool := x.contains 10
def brokenB (L : Ls) : Bool := L.any hasLF
theorem hasLF_iff (x : List UInt8) : hasLF x = true ↔ (10 : UInt8) ∈ x := by simp [hasLF]
theorem noLF_iff (L : Ls) : noLF L ↔ brokenB L = false := by
  simp only [noLF, brokenB, List.any_eq_false]
  exact ⟨fun h x hx e => h x hx ((hasLF_iff x).1 e), fun h x hx e => h x hx ((hasLF_iff x).2 e)⟩
theorem indexByte_has (x : List UInt8) : decide (0 ≤ Lib.indexByte x 10) = hasLF x := by
  induction x with
  | nil => rfl
  | cons b x ih =>
    have hge := Lib.indexByte_ge x 10
    unfold Lib.indexByte
    by_cases hb : b = 10
    · subst hb; simp [hasLF]
    · have h1 : (b == 10) = false := beq_eq_false_iff_ne.2 hb
      have h2 : hasLF (b :: x) = hasLF x := by simp [hasLF]; exact fun h => absurd h.symm hb
      rw [h1, h2, ← ih]
      by_cases hm : Lib.indexByte x 10 = -1
      · rw [hm]; rfl
      · have h3 : (Lib.indexByte x 10 == -1) = false := beq_eq_false_iff_ne.2 hm
        rw [h3]
        have : 0 ≤ Lib.indexByte x 10 := by omega
        simp only [Bool.false_eq_true, if_false]
        rw [decide_eq_true this, decide_eq_true (by omega)]
section
variable {w0 w : World} {R : List Asrt}
theorem rdl_cell {v : Value} {L : Ls} (hk : RdL w0 R v L) {i : Nat} {x : List UInt8} (hx : L[i]? = some x) (H : Owns w0 w R) : ∃ b o c, v = .slice (some ⟨b, o, none⟩) L.length c ∧ L.length ≤ c ∧ w.cell? ⟨b, o + i, none⟩ = some (.string (bs x)) := by
  have hi : i < L.length := (List.getElem?_eq_some_iff.1 hx).1
  obtain ⟨b, o, c', e1, hc, _, hce⟩ := (hk w H).cells (by omega) (by decide)
  exact ⟨b, o, c', e1, hc, hce i _ (lstrs_get hx)⟩
set_option maxHeartbeats 1000000 in
theorem tsize {a : Option Addr} {n c : Nat} {L : Ls} (hn : n = L.length) (H : Owns w0 w R) (hk : RdL w0 R (.slice a n c) L) (hb : bulkL L ≤ 4611686018427387904) :
    Calls Tryz.prog 26 #[.slice a n c] w fun e w' => e = .returned (.int .i64 (bulkL L)) ∧ w' = w := by
  have hn63 := (hk w H).n63
  rw [← hn] at hn63
  have Hcell := Lib.hid (fun i x hx => rdl_cell hk (i := i) (x := x) hx H)
  have Hn := Lib.hid hn
  have Hb := Lib.hid hb
  clear H hk hn hb
  go_enter Tryz.func26, Tryz.ntmps26
  go_wp2_with fail
  go_loopw [3, 5, 8] (fun nv _ q wr => ∃ i : Nat, i ≤ n ∧ q = .int .i64 i ∧ nv = .int .i64 (bulkL (L.take i)) ∧ wr = w) (fun _ _ q _ => n - (intOf q).toNat)
  case atStart => exact ⟨0, Nat.zero_le _, rfl, rfl, rfl⟩
  case round =>
    obtain ⟨i, hi, rfl, rfl, rfl⟩ := hrel
    by_cases hlt : i < n
    · obtain ⟨x, hx⟩ : ∃ x, L[i]? = some x := ⟨_, List.getElem?_eq_getElem (by rw [← Hn.out]; exact hlt)⟩
      obtain ⟨b, o, c', e1, hc, hcell⟩ := Hcell.out i x hx
      rw [← Hn.out] at e1 hc
      cases e1
      have hsz : (bs x).size = x.length := bs_size x
      have hst := bulkL_take_succ hx
      have hle := bulkL_take_le L (i + 1)
      have hle2 := Hb.out
      obtain ⟨q, hq⟩ : ∃ q, q = bulkL (L.take i) := ⟨_, rfl⟩
      obtain ⟨q2, hq2⟩ : ∃ q2, q2 = bulkL (L.take (i + 1)) := ⟨_, rfl⟩
      rw [← hq, ← hq2] at hst
      rw [← hq2] at hle
      rw [← hq]
      have hw1 : IntKind.i64.wrap ((x.length : Int) + 1) = (x.length : Int) + 1 := by rw [IntKind.wrap_i64]; omega
      have hw2 : IntKind.i64.wrap ((q : Int) + ((x.length : Int) + 1)) = (q2 : Int) := by rw [IntKind.wrap_i64]; omega
      have Hq2 := Lib.hid hq2
      clear hx hst hle hle2 hq hq2
      go_wp2_with fail
      go_roundw
      case rel => exact ⟨i + 1, by omega, by go_num, by rw [Hq2.out], trivial⟩
      case measure => simp [intOf]; omega
    · obtain rfl : i = n := by omega
      have ht : L.take i = L := List.take_of_length_le (by rw [Hn.out]; exact Nat.le_refl _)
      rw [ht]
      go_wp2_with fail
      go_ret
      exact ⟨rfl, rfl⟩
set_option maxHeartbeats 1000000 in
theorem rsize {a : Option Addr} {n c : Nat} {L : Ls} (hn : n = L.length) (H : Owns w0 w R) (hk : RdL w0 R (.slice a n c) L) (hb : bulkL L ≤ 4611686018427387904) :
    Calls Tryz.prog 11 #[.slice a n c] w fun e w' => e = .returned (.int .i64 (bulkL L)) ∧ w' = w := by
  have hn63 := (hk w H).n63
  rw [← hn] at hn63
  have Hcell := Lib.hid (fun i x hx => rdl_cell hk (i := i) (x := x) hx H)
  have Hn := Lib.hid hn
  have Hb := Lib.hid hb
  clear H hk hn hb
  go_enter Tryz.func11, Tryz.ntmps11
  go_wp2_with fail
  go_loopw [3, 4] (fun nv q wr => ∃ i : Nat, i ≤ n ∧ q = .int .i64 i ∧ nv = .int .i64 (bulkL (L.take i)) ∧ wr = w) (fun _ q _ => n - (intOf q).toNat)
  case atStart => exact ⟨0, Nat.zero_le _, rfl, rfl, rfl⟩
  case round =>
    obtain ⟨i, hi, rfl, rfl, rfl⟩ := hrel
    by_cases hlt : i < n
    · obtain ⟨x, hx⟩ : ∃ x, L[i]? = some x := ⟨_, List.getElem?_eq_getElem (by rw [← Hn.out]; exact hlt)⟩
      obtain ⟨b, o, c', e1, hc, hcell⟩ := Hcell.out i x hx
      rw [← Hn.out] at e1 hc
      cases e1
      have hsz : (bs x).size = x.length := bs_size x
      have hst := bulkL_take_succ hx
      have hle := bulkL_take_le L (i + 1)
      have hle2 := Hb.out
      obtain ⟨q, hq⟩ : ∃ q, q = bulkL (L.take i) := ⟨_, rfl⟩
      obtain ⟨q2, hq2⟩ : ∃ q2, q2 = bulkL (L.take (i + 1)) := ⟨_, rfl⟩
      rw [← hq, ← hq2] at hst
      rw [← hq2] at hle
      rw [← hq]
      have hw1 : IntKind.i64.wrap ((x.length : Int) + 1) = (x.length : Int) + 1 := by rw [IntKind.wrap_i64]; omega
      have hw2 : IntKind.i64.wrap ((q : Int) + ((x.length : Int) + 1)) = (q2 : Int) := by rw [IntKind.wrap_i64]; omega
      have Hq2 := Lib.hid hq2
      clear hx hst hle hle2 hq hq2
      go_wp2_with fail
      go_roundw
      case rel => exact ⟨i + 1, by omega, by go_num, by rw [Hq2.out], trivial⟩
      case measure => simp [intOf]; omega
    · obtain rfl : i = n := by omega
      have ht : L.take i = L := List.take_of_length_le (by rw [Hn.out]; exact Nat.le_refl _)
      rw [ht]
      go_wp2_with fail
      go_ret
      exact ⟨rfl, rfl⟩
theorem run_at {x : List UInt8} {k : Nat} {b : UInt8} (hk : x[k]? = some b) (w : World) : (Instr.index 9 (.string (bs x)) (.int .i64 k)).run Tryz.prog w = .ok (.int .u8 b.toNat) w := by
  have h1 := List.getElem?_eq_some_iff.1 hk
  rw [run_index_string (h := Tryz.underlying9), dif_pos ⟨by omega, by rw [bs_size]; have := h1.1; omega⟩]
  have e : (bs x)[((k : Int).toNat)]'(by have h2 : (bs x).size = x.length := bs_size x; have := h1.1; simp only [Int.toNat_natCast]; omega) = b := h1.2
  rw [e]
/-- is there a LF? -/
theorem tlf (x : List UInt8) (w : World) : Calls Tryz.prog 43 #[.string (bs x)] w fun e w' => e = .returned (.bool (hasLF x)) ∧ w' = w := by
  have hc := Tryz.strings_Contains_one (bs x) 10 w
  rw [bs_data, indexByte_has] at hc
  have Hc := Lib.hid hc
  clear hc
  go_enter Tryz.func43, Tryz.ntmps43
  go_wp2_with fail
  refine Hc.out.mono ?_
  rintro e w' ⟨rfl, rfl⟩
  go_wp2_with fail
  go_ret
  exact ⟨rfl, rfl⟩
theorem broken_take {L : Ls} {i : Nat} {x : List UInt8} (h : L[i]? = some x) : brokenB (L.take (i + 1)) = (brokenB (L.take i) || hasLF x) := by
  rw [List.take_add_one, h, brokenB, List.any_append]
  simp [brokenB]
theorem broken_of {L : Ls} {i : Nat} {x : List UInt8} (h : L[i]? = some x) (hx : hasLF x = true) : brokenB L = true := by
  rw [brokenB, List.any_eq_true]
  exact ⟨x, List.mem_of_getElem? h, hx⟩
set_option maxHeartbeats 1000000 in
theorem tindex {a : Option Addr} {n c : Nat} {L : Ls} (hn : n = L.length) (H : Owns w0 w R) (hk : RdL w0 R (.slice a n c) L) :
    Calls Tryz.prog 65 #[.slice a n c, .func (.func 43) #[] #[]] w fun e w' => (∃ k : Int, e = .returned (.int .i64 k) ∧ decide (0 ≤ k) = brokenB L) ∧ w' = w := by
  have hn63 := (hk w H).n63
  rw [← hn] at hn63
  have Hcell := Lib.hid (fun i x hx => rdl_cell hk (i := i) (x := x) hx H)
  have Hn := Lib.hid hn
  clear H hk hn
  go_enter Tryz.func65, Tryz.ntmps65
  go_wp2_with fail
  go_loopw [5, 8] (fun _ q wr => ∃ i : Nat, i ≤ n ∧ q = .int .i64 i ∧ brokenB (L.take i) = false ∧ wr = w) (fun _ q _ => n - (intOf q).toNat)
  case atStart => exact ⟨0, Nat.zero_le _, rfl, rfl, rfl⟩
  case round =>
    obtain ⟨i, hi, rfl, hbr, rfl⟩ := hrel
    have Hbr := Lib.hid hbr
    clear hbr
    by_cases hlt : i < n
    · obtain ⟨x, hx⟩ : ∃ x, L[i]? = some x := ⟨_, List.getElem?_eq_getElem (by rw [← Hn.out]; exact hlt)⟩
      obtain ⟨b, o, c', e1, hc, hcell⟩ := Hcell.out i x hx
      rw [← Hn.out] at e1 hc
      cases e1
      have Hx := Lib.hid hx
      have Hlf := Lib.hid (tlf x wr)
      clear hx
      go_wp2_with fail
      refine Hlf.out.mono ?_
      rintro e w' ⟨rfl, rfl⟩
      cases hb : hasLF x with
      | true =>
        go_wp2_with fail
        go_ret
        exact ⟨⟨i, rfl, by rw [broken_of Hx.out hb]; simp⟩, rfl⟩
      | false =>
        have h2 := broken_take Hx.out
        rw [Hbr.out, hb] at h2
        have H2 := Lib.hid h2
        clear h2 hb
        go_wp2_with fail
        go_roundw
        case rel => exact ⟨i + 1, by omega, by go_num, H2.out, trivial⟩
        case measure => simp [intOf]; omega
    · obtain rfl : i = n := by omega
      have ht : L.take i = L := List.take_of_length_le (by rw [Hn.out]; exact Nat.le_refl _)
      have h2 := Hbr.out
      rw [ht] at h2
      have H2 := Lib.hid h2
      clear h2
      go_wp2_with fail
      go_ret
      exact ⟨⟨-1, rfl, by rw [H2.out]; rfl⟩, rfl⟩
theorem tbroken {a : Option Addr} {n c : Nat} {L : Ls} (hn : n = L.length) (H : Owns w0 w R) (hk : RdL w0 R (.slice a n c) L) :
    Calls Tryz.prog 25 #[.slice a n c] w fun e w' => e = .returned (.bool (brokenB L)) ∧ w' = w := by
  have hc := tindex hn H hk
  have Hc := Lib.hid hc
  clear hc H hk hn
  go_enter Tryz.func25, Tryz.ntmps25
  go_wp2_with fail
  have hcf : Calls Tryz.prog 42 #[.slice a n c, .func (.func 43) #[] #[]] w fun e w' => e = .returned (.bool (brokenB L)) ∧ w' = w := by
    go_enter Tryz.func42, Tryz.ntmps42
    go_wp2_with fail
    refine Hc.out.mono ?_
    rintro e w' ⟨⟨k, rfl, hk⟩, rfl⟩
    have Hk := Lib.hid hk
    clear hk
    go_wp2_with fail
    go_ret
    exact ⟨by rw [← Hk.out]; rfl, rfl⟩
  refine hcf.mono ?_
  rintro e w' ⟨rfl, rfl⟩
  go_wp2_with fail
  go_ret
  exact ⟨rfl, rfl⟩
end
end Go.Proofs.YtcdoomlagmddcaaGreatDoor
