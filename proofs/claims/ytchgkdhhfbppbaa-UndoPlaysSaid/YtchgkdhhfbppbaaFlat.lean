/- Lists of things that take several cells each. No program in sight. -/
import Derived.Test.YtchgkdhhfbppbaaSep
namespace Go.Fol
open Go Go.RowKit
set_option linter.unusedVariables false
set_option linter.unusedSimpArgs false
section
variable {α : Type} {f : α → List Value} {K : Nat}
/-- the cells of all, one after another. -/
def flat (f : α → List Value) (L : List α) : List Value := L.flatMap f
theorem flat_nil : flat f [] = [] := rfl
theorem flat_cons (x : α) (L : List α) : flat f (x :: L) = f x ++ flat f L := by simp [flat]
theorem flat_append (A B : List α) : flat f (A ++ B) = flat f A ++ flat f B := by simp [flat]
theorem flat_one (x : α) : flat f [x] = f x := by simp [flat]
theorem flat_len (hf : ∀ x, (f x).length = K) : ∀ L : List α, (flat f L).length = L.length * K
  | [] => by simp [flat]
  | x :: L => by rw [flat_cons, List.length_append, hf, flat_len hf L, List.length_cons, Nat.add_mul]; omega
theorem flat_take (hf : ∀ x, (f x).length = K) : ∀ (L : List α) (i : Nat), (flat f L).take (i * K) = flat f (L.take i)
  | [], i => by simp [flat]
  | x :: L, 0 => by simp [flat]
  | x :: L, i + 1 => by
    rw [flat_cons, List.take_succ_cons, flat_cons, List.take_append, ← flat_take hf L i, hf, List.take_of_length_le (by rw [hf, Nat.add_mul]; omega)]
    congr 2
    rw [Nat.add_mul]; omega
theorem flat_drop (hf : ∀ x, (f x).length = K) : ∀ (L : List α) (i : Nat), (flat f L).drop (i * K) = flat f (L.drop i)
  | [], i => by simp [flat]
  | x :: L, 0 => by simp [flat]
  | x :: L, i + 1 => by
    rw [flat_cons, List.drop_succ_cons, List.drop_append, ← flat_drop hf L i, hf, List.drop_eq_nil_of_le (by rw [hf, Nat.add_mul]; omega), List.nil_append]
    congr 1
    rw [Nat.add_mul]; omega
theorem flat_get (hf : ∀ x, (f x).length = K) {L : List α} {i j : Nat} {x : α} (hx : L[i]? = some x) (hj : j < K) : (flat f L)[i * K + j]? = (f x)[j]? := by
  obtain ⟨hi, rfl⟩ := List.getElem?_eq_some_iff.1 hx
  have h1 : (flat f L).drop (i * K) = flat f (L.drop i) := flat_drop hf L i
  rw [List.drop_eq_getElem_cons hi, flat_cons] at h1
  have : ((flat f L).drop (i * K))[j]? = (f L[i])[j]? := by rw [h1, List.getElem?_append_left (by rw [hf]; exact hj)]
  rwa [List.getElem?_drop] at this
theorem flat_one_cell (h : ∀ x, ∀ u ∈ f x, u.oneCell' = true) (L : List α) : ∀ u ∈ flat f L, u.oneCell' = true := by
  intro u hu
  obtain ⟨x, _, hx⟩ := List.mem_flatMap.1 hu
  exact h x u hx
theorem flat_set (hf : ∀ x, (f x).length = K) {L : List α} {i : Nat} {x y : α} (hx : L[i]? = some x) : (flat f L).take (i * K) ++ f y ++ (flat f L).drop ((i + 1) * K) = flat f (L.set i y) := by
  obtain ⟨hi, rfl⟩ := List.getElem?_eq_some_iff.1 hx
  rw [flat_take hf, flat_drop hf, List.set_eq_take_append_cons_drop, if_pos hi, flat_append, flat_cons, List.append_assoc]
end
/-- two cells set. -/
theorem set_two (xs : List Value) (q : Nat) (a b : Value) (h : q + 1 < xs.length) : (xs.set q a).set (q + 1) b = xs.take q ++ [a, b] ++ xs.drop (q + 2) := by
  apply List.ext_getElem?
  intro k
  by_cases h1 : k < q
  · rw [List.getElem?_set_ne (by omega), List.getElem?_set_ne (by omega), List.append_assoc, List.getElem?_append_left (by simp; omega), List.getElem?_take_of_lt h1]
  · by_cases h2 : k = q
    · subst h2
      rw [List.getElem?_set_ne (by omega), List.getElem?_set_self (by omega), List.append_assoc, List.getElem?_append_right (by simp; omega), List.length_take, Nat.min_eq_left (by omega)]
      simp
    · by_cases h3 : k = q + 1
      · subst h3
        rw [List.getElem?_set_self (by simp; omega), List.append_assoc, List.getElem?_append_right (by simp; omega), List.length_take, Nat.min_eq_left (by omega)]
        simp
      · rw [List.getElem?_set_ne (by omega), List.getElem?_set_ne (by omega), List.getElem?_append_right (by simp; omega), List.getElem?_drop]
        congr 1
        simp
        omega
/-- places as cells. -/
def posf (p : Int × Int) : List Value := [.int .i64 p.1, .int .i64 p.2]
abbrev poss (L : List (Int × Int)) : List Value := flat posf L
theorem posf_len : ∀ x, (posf x).length = 2 := fun _ => rfl
theorem poss_one (L : List (Int × Int)) : ∀ u ∈ poss L, u.oneCell' = true := flat_one_cell (fun x u hu => by simp [posf] at hu; rcases hu with rfl | rfl <;> rfl) L
theorem poss_len (L : List (Int × Int)) : (poss L).length = L.length * 2 := flat_len posf_len L
theorem poss_get {L : List (Int × Int)} {i : Nat} {p : Int × Int} (h : L[i]? = some p) : (poss L)[i * 2]? = some (.int .i64 p.1) ∧ (poss L)[i * 2 + 1]? = some (.int .i64 p.2) :=
  ⟨by have := flat_get posf_len h (j := 0) (by decide); simpa [posf] using this, by have := flat_get posf_len h (j := 1) (by decide); simpa [posf] using this⟩
theorem poss_snoc (L : List (Int × Int)) (a b : Int) : poss L ++ [.int .i64 a, .int .i64 b] = poss (L ++ [(a, b)]) := by rw [poss, poss, flat_append, flat_one]; rfl
theorem poss_take {L : List (Int × Int)} {k : Nat} {q : Int × Int} (hq : L[k]? = some q) : poss (L.take k) ++ [.int .i64 q.1, .int .i64 q.2] = poss (L.take (k + 1)) := by
  obtain ⟨h1, h2⟩ := List.getElem?_eq_some_iff.1 hq
  rw [List.take_succ_eq_append_getElem h1, h2, poss_snoc]
theorem poss_set {L : List (Int × Int)} {i : Nat} (a b : Int) (h : i < L.length) : ((poss L).set (i * 2) (.int .i64 a)).set (i * 2 + 1) (.int .i64 b) = poss (L.set i (a, b)) := by
  rw [set_two _ _ _ _ (by rw [poss_len]; omega)]
  have := flat_set posf_len (L := L) (i := i) (x := L[i]) (y := (a, b)) (List.getElem?_eq_getElem h)
  rw [Nat.add_mul] at this
  exact this
end Go.Fol
