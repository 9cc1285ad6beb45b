/- The vectors of int (one cell an element): At, Set, All in words of what stands side by side. -/
import Derived.Test.YtbddehfcamgfhaaVecOInt
import Derived.Test.YtbddehfcamgfhaaVecAtInt
import Derived.Test.YtbddehfcamgfhaaVecSetInt
import Derived.Test.YtbddehfcamgfhaaVecAllInt
namespace Go.Proofs.Ytbddehfcamgfhaa
open Go Go.RowKit Go.Fol
set_option linter.unusedVariables false
set_option linter.unusedSimpArgs false
section
variable {w0 w : World} {R : List Asrt}
theorem o_at_int {p n : Nat} {xs : List Value} (i : Nat) (x : Value) (H : Owns w0 w (vec_int p n xs :: R)) (hi : i < n) (hx : xs[i]? = some x) :
    Calls Try.prog 20 #[.pointer (some ⟨p, 0, none⟩), .int .i64 i] w fun e w' => e = .returned (.tuple #[x, .bool true]) ∧ w = w' := by
  obtain ⟨sv, hv, _⟩ := H.vec
  exact at_in_int p i x sv n xs w hv (by omega) (by omega) (by simpa using hx)
theorem o_at_out_int {p n : Nat} {xs : List Value} (i : Int) (H : Owns w0 w (vec_int p n xs :: R)) (h0 : ¬ (0 ≤ i ∧ i < n)) :
    Calls Try.prog 20 #[.pointer (some ⟨p, 0, none⟩), .int .i64 i] w fun e w' => e = .returned (.tuple #[(.int .i64 0), .bool false]) ∧ w = w' := by
  obtain ⟨sv, hv, _⟩ := H.vec
  exact at_out_int p i sv n xs w hv h0
theorem o_set_int {p n : Nat} {xs : List Value} (i : Nat) (x : Value) (h1x : x.oneCell' = true) (H : Owns w0 w (vec_int p n xs :: R)) (hi : i < n) :
    Calls Try.prog 29 #[.pointer (some ⟨p, 0, none⟩), .int .i64 i, x] w (Ret (.bool true) w0 (vec_int p n (xs.set i x) :: R)) := by
  obtain ⟨sv, hv, _⟩ := H.vec
  exact (set_in_int p i x h1x sv n xs w hv (by omega) (by omega)).mono fun e w' h => H.vecBack hv h
theorem o_set_out_int {p n : Nat} {xs : List Value} (i : Int) (x : Value) (H : Owns w0 w (vec_int p n xs :: R)) (h0 : ¬ (0 ≤ i ∧ i < n)) :
    Calls Try.prog 29 #[.pointer (some ⟨p, 0, none⟩), .int .i64 i, x] w fun e w' => e = .returned (.bool false) ∧ w = w' := by
  obtain ⟨sv, hv, _⟩ := H.vec
  exact set_out_int p i x sv n xs w hv h0
theorem o_all_int {p n : Nat} {xs : List Value} (H : Owns w0 w (vec_int p n xs :: R)) (h1x : ∀ u ∈ xs, u.oneCell' = true) (hb : n * 8 ≤ 140737488355328) :
    Calls Try.prog 28 #[.pointer (some ⟨p, 0, none⟩)] w (RetX (fun b : Nat => .func (.func 35) #[] #[.pointer (some ⟨b, 0, none⟩)]) w0 (fun b => Asrt.vec 27 3 1 b n xs :: vec_int p n xs :: R)) := by
  obtain ⟨sv, hv, _⟩ := H.vec
  exact (ranged_all_int p sv n xs w hv h1x hb).mono fun e w' h => H.ranged h
/-- what a range over All goes through. -/
theorem o_seq_all_int {b n : Nat} {xs : List Value} (H : Owns w0 w (Asrt.vec 27 3 1 b n xs :: R)) : ∃ S, SeqList Try.prog 35 #[.pointer (some ⟨b, 0, none⟩)] (fun k => #[.int .i64 k, xs[k]?.getD undef]) S n w ∧ Owns w0 w (Asrt.same w S :: R) := by
  obtain ⟨sv, hv, hu⟩ := H.vec
  exact ⟨_, seq_all_int b sv n xs w hv, H.toSame hu⟩
end
end Go.Proofs.Ytbddehfcamgfhaa
