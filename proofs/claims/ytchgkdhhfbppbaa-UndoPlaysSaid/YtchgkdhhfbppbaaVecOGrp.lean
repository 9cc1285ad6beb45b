/- The vectors of foolscap/undo.group: the contracts in words of what stands side by side. -/
import Derived.Test.YtchgkdhhfbppbaaVecDelGrp
import Derived.Test.YtchgkdhhfbppbaaRangeO
namespace Go.Proofs.Ytchgkdhhfbppbaa
open Go Go.RowKit Go.Fol
set_option linter.unusedVariables false
set_option linter.unusedSimpArgs false
section
variable {w0 w : World} {R : List Asrt}
/-- a vector of foolscap/undo.group. -/
abbrev vec_grp (p n : Nat) (xs : List Value) : Asrt := Asrt.vec 70 56 5 p n xs
abbrev row_grp (v : Value) (n : Nat) (xs : List Value) : Asrt := Asrt.row 56 5 v n xs
theorem o_new_grp (v : Value) (n : Nat) (xs : List Value) (H : Owns w0 w R) (hs : Reads w0 R 5 v n xs) (h1 : ∀ u ∈ xs, u.oneCell' = true) (hb : n * 56 ≤ 140737488355328) :
    Calls Try.prog 21 #[v] w (RetX (fun p : Nat => .pointer (some ⟨p, 0, none⟩)) w0 (fun p => vec_grp p n xs :: R)) :=
  (new_grp v n xs w (hs w H) h1 hb).mono fun e w' h => H.newVec h
theorem o_clone_grp (v : Value) (n : Nat) (xs : List Value) (H : Owns w0 w R) (hs : Reads w0 R 5 v n xs) (h1 : ∀ u ∈ xs, u.oneCell' = true) (hb : n * 56 ≤ 140737488355328) :
    Calls Try.prog 29 #[v] w (RetX (fun v : Value => v) w0 (fun v => row_grp v n xs :: R)) :=
  (clone_grp v n xs w (hs w H) h1 hb).mono fun e w' h => H.cloned h
theorem o_len_grp {p n : Nat} {xs : List Value} (H : Owns w0 w (vec_grp p n xs :: R)) :
    Calls Try.prog 24 #[.pointer (some ⟨p, 0, none⟩)] w fun e w' => e = .returned (.int .i64 n) ∧ w = w' := by
  obtain ⟨sv, hv, _⟩ := H.vec
  exact len_grp p sv n xs w hv
theorem o_insert_grp {p n m : Nat} {xs : List Value} (i : Nat) (v : Value) (vs : List Value) (H : Owns w0 w (vec_grp p n xs :: R)) (hs : Reads w0 R 5 v m vs)
    (h1x : ∀ u ∈ xs, u.oneCell' = true) (h1 : ∀ u ∈ vs, u.oneCell' = true) (hin : i ≤ n) (hb : (n + m) * 56 ≤ 140737488355328) :
    Calls Try.prog 25 #[.pointer (some ⟨p, 0, none⟩), .int .i64 i, v] w (Ret (.bool true) w0 (vec_grp p (n + m) (xs.take (i * 5) ++ vs ++ xs.drop (i * 5)) :: R)) := by
  obtain ⟨sv, hv, _⟩ := H.vec
  have h := (insert_in_grp p i v sv n m xs vs w hv (hs w H.drop) (H.vecOff hv hs (by decide)) h1x h1 (by omega) (by omega) hb).mono fun e w' h => H.vecBack hv h
  simpa only [Int.toNat_natCast] using h
theorem o_insert_out_grp {p n m : Nat} {xs : List Value} (i : Int) (v : Value) (vs : List Value) (H : Owns w0 w (vec_grp p n xs :: R)) (hs : Reads w0 R 5 v m vs) (hi : ¬ (0 ≤ i ∧ i ≤ n)) :
    Calls Try.prog 25 #[.pointer (some ⟨p, 0, none⟩), .int .i64 i, v] w fun e w' => e = .returned (.bool false) ∧ w = w' := by
  obtain ⟨sv, hv, _⟩ := H.vec
  exact insert_out_grp p i v sv n m xs vs w hv (hs w H.drop) (by omega)
theorem o_delete_out_grp {p n : Nat} {xs : List Value} (i m : Int) (H : Owns w0 w (vec_grp p n xs :: R)) (h0 : ¬ (0 ≤ i ∧ i < n) ∨ m < 1) :
    Calls Try.prog 23 #[.pointer (some ⟨p, 0, none⟩), .int .i64 i, .int .i64 m] w fun e w' => e = .returned (.slice none 0 0) ∧ w = w' := by
  obtain ⟨sv, hv, _⟩ := H.vec
  exact delete_out_grp p i m sv n xs w hv h0
theorem o_delete_grp {p n : Nat} {xs : List Value} (i r : Nat) (m : Int) (H : Owns w0 w (vec_grp p n xs :: R)) (h1x : ∀ u ∈ xs, u.oneCell' = true) (hin : i < n) (hm : 1 ≤ m) (hr : min m ((n : Int) - i) = r) (hmx : m ≤ 9223372036854775807) (hb : n * 56 ≤ 140737488355328) :
    Calls Try.prog 23 #[.pointer (some ⟨p, 0, none⟩), .int .i64 i, .int .i64 m] w
      (RetX (fun d : Value => d) w0 (fun d => vec_grp p (n - r) (xs.take (i * 5) ++ xs.drop ((i + r) * 5)) :: row_grp d r ((xs.drop (i * 5)).take (r * 5)) :: R)) := by
  obtain ⟨sv, hv, hu⟩ := H.vec
  refine (delete_in_grp p i m sv n r xs w hv h1x (by omega) (by omega) hm hr hmx hb).mono ?_
  rintro e w' ⟨sv', d, rfl, hv', hd, hm', hn⟩
  refine ⟨d, rfl, Owns.step (Bs := [_, _]) H (fun F hF _ => ?_)⟩
  obtain rfl := hu F hF
  simp only [Int.toNat_natCast] at hv' hd
  refine ⟨hm'.chg, vfoot p sv', ⟨sv', rfl, hv'⟩, fun b hb => ?_, d.ownBlock.toList, ⟨rfl, hd⟩, fun b hb => ?_, trivial⟩
  · simp only [vfoot, List.mem_cons, Option.mem_toList] at hb ⊢
    rcases hb with rfl | hb
    · exact .inl (.inl rfl)
    · exact (hm'.new b hb).elim (fun h => .inl (.inr h)) .inr
  · have h := hn b (by simpa using hb)
    refine ⟨.inr h.1, fun hm => ?_⟩
    simp only [vfoot, List.mem_cons, Option.mem_toList] at hm
    exact hm.elim h.2.1 h.2.2
theorem app_grp {s x : Value} {n m : Nat} {xs vs : List Value} (H : Owns w0 w (row_grp s n xs :: R)) (hv : Reads w0 R 5 x m vs) (h1 : ∀ u ∈ vs, u.oneCell' = true) (h63 : n + m ≤ maxLen) (hb : (n + m) * 56 ≤ 140737488355328) :
    ∃ v' w', (∀ ty, (Builtin.append_ #[60, 60] ty #[s, x]).run Try.prog w = .ok v' w') ∧ Owns w0 w' (row_grp v' (n + m) (xs ++ vs) :: R) := by
  obtain ⟨i0, hi, hz0, hz1, hz2⟩ := info_parts info_grp
  exact Owns.app (ty := 0) Try.underlying60 hi hz0 hz1 hz2 rfl (by decide) H hv h1 h63 hb
theorem app0_grp {x : Value} {m : Nat} {vs : List Value} (H : Owns w0 w R) (hv : Reads w0 R 5 x m vs) (h1 : ∀ u ∈ vs, u.oneCell' = true) (h63 : m ≤ maxLen) (hb : m * 56 ≤ 140737488355328) :
    ∃ v' w', (∀ ty, (Builtin.append_ #[60, 60] ty #[.slice none 0 0, x]).run Try.prog w = .ok v' w') ∧ Owns w0 w' (row_grp v' m vs :: R) := by
  obtain ⟨v', w', h2, h3⟩ := app_grp (H.rowNil 56 5) hv h1 (by omega) (by simpa using hb)
  exact ⟨v', w', h2, by simpa using h3⟩
end
end Go.Proofs.Ytchgkdhhfbppbaa
