/- Lines, their text, where they begin, lines put in the stead of others: plain. -/
import Derived.Test.YtcdoomlagmddcaaGreatDoorKl
import Derived.Test.YtcdoomlagmddcaaGreatDoorPlain
namespace Go.Proofs.YtcdoomlagmddcaaGreatDoor
open Go Go.RowKit Go.Fol
set_option linter.unusedVariables false
set_option linter.unusedSimpArgs false
abbrev Ls := List (List UInt8)
def noLF (W : Ls) : Prop := ∀ x ∈ W, (10 : UInt8) ∉ x
/-- each line with its LF. -/
def flatL (W : Ls) : List UInt8 := W.flatMap (· ++ [10])
theorem flatL_nil : flatL [] = [] := rfl
theorem flatL_cons (x : List UInt8) (W : Ls) : flatL (x :: W) = x ++ [10] ++ flatL W := by simp [flatL]
theorem flatL_append (A B : Ls) : flatL (A ++ B) = flatL A ++ flatL B := by simp [flatL]
theorem flatL_len : ∀ W : Ls, (flatL W).length = bulkL W
  | [] => rfl
  | x :: W => by rw [flatL_cons, List.length_append, List.length_append, flatL_len W, bulkL]; rfl
theorem bulkL_append (A B : Ls) : bulkL (A ++ B) = bulkL A + bulkL B := by rw [← flatL_len, flatL_append, List.length_append, flatL_len, flatL_len]
theorem joinL_nil : joinL [] = [] := rfl
theorem joinL_one (x : List UInt8) : joinL [x] = x := Lib.join_one ..
theorem joinL_two (x y : List UInt8) (r : Ls) : joinL (x :: y :: r) = x ++ 10 :: joinL (y :: r) := by
  simp [joinL, Lib.join_cons, Lib.joinTail]
theorem join_flat : ∀ W : Ls, W ≠ [] → joinL W ++ [10] = flatL W
  | [], h => absurd rfl h
  | [x], _ => by rw [joinL_one, flatL_cons, flatL_nil, List.append_nil]
  | x :: y :: r, _ => by
    rw [joinL_two, flatL_cons, ← join_flat (y :: r) (by simp)]
    simp
theorem join_len {W : Ls} (h : W ≠ []) : (joinL W).length + 1 = bulkL W := by
  rw [← flatL_len, ← join_flat W h, List.length_append]
  rfl
theorem join_of {W : Ls} (h : W ≠ []) {X : List UInt8} (hX : X ++ [10] = flatL W) : X = joinL W := by
  rw [← join_flat W h] at hX
  exact List.append_cancel_right hX
theorem bulkL_pos {W : Ls} (h : W ≠ []) : 0 < bulkL W := by
  cases W with
  | nil => exact absurd rfl h
  | cons x r => simp only [bulkL]; omega
theorem bulkL_take_le (W : Ls) (k : Nat) : bulkL (W.take k) ≤ bulkL W := by
  have := bulkL_append (W.take k) (W.drop k)
  rw [List.take_append_drop] at this
  omega
theorem bulkL_take_mono (W : Ls) {i k : Nat} (h : i ≤ k) : bulkL (W.take i) ≤ bulkL (W.take k) := by
  have := bulkL_take_le (W.take k) i
  rwa [List.take_take, Nat.min_eq_left h] at this
theorem bulkL_take_lt {W : Ls} {k : Nat} (h : k < W.length) : bulkL (W.take k) < bulkL W := by
  have h1 := bulkL_append (W.take k) (W.drop k)
  rw [List.take_append_drop] at h1
  have h2 : W.drop k ≠ [] := fun e => by have := congrArg List.length e; simp at this; omega
  have := bulkL_pos h2
  omega
theorem bulkL_take_succ {W : Ls} {k : Nat} {x : List UInt8} (h : W[k]? = some x) : bulkL (W.take (k + 1)) = bulkL (W.take k) + x.length + 1 := by
  rw [List.take_add_one, h, bulkL_append]
  simp only [Option.toList_some, bulkL]
  omega
theorem len_le_bulk : ∀ W : Ls, W.length ≤ bulkL W
  | [] => Nat.le_refl _
  | x :: r => by have := len_le_bulk r; simp only [bulkL, List.length_cons]; omega
/-! lines of a text -/
theorem linesL_end : ∀ {x : List UInt8}, (10 : UInt8) ∉ x → linesL x = [x]
  | [], _ => rfl
  | b :: x, h => by
    have hb : ¬ b = 10 := fun e => h (by simp [e])
    have := linesL_end (x := x) (fun e => h (List.mem_cons_of_mem _ e))
    rw [linesL, if_neg hb, this]
theorem linesL_cut : ∀ {x : List UInt8} (l : List UInt8), (10 : UInt8) ∉ x → linesL (x ++ 10 :: l) = x :: linesL l
  | [], l, _ => by simp [linesL]
  | b :: x, l, h => by
    have hb : ¬ b = 10 := fun e => h (by simp [e])
    have := linesL_cut (x := x) l (fun e => h (List.mem_cons_of_mem _ e))
    rw [List.cons_append, linesL, if_neg hb, this]
theorem lines_join : ∀ {W : Ls}, W ≠ [] → noLF W → linesL (joinL W) = W
  | [], h, _ => absurd rfl h
  | [x], _, h => by rw [joinL_one]; exact linesL_end (h x (by simp))
  | x :: y :: r, _, h => by
    rw [joinL_two, linesL_cut _ (h x (by simp)), lines_join (by simp) (fun z hz => h z (List.mem_cons_of_mem _ hz))]
/-! where they begin -/
theorem sf_no : ∀ {x : List UInt8} (k : Nat), (10 : UInt8) ∉ x → sf k x = []
  | [], _, _ => rfl
  | b :: x, k, h => by
    have hb : ¬ b = 10 := fun e => h (by simp [e])
    have := sf_no (x := x) (k + 1) (fun e => h (List.mem_cons_of_mem _ e))
    simp [sf, hb, this]
theorem sf_cut {x : List UInt8} (k : Nat) (l : List UInt8) (h : (10 : UInt8) ∉ x) : sf k (x ++ 10 :: l) = (k + x.length + 1) :: sf (k + x.length + 1) l := by
  rw [sf_append, sf_no k h]
  simp [sf]
theorem sf_join : ∀ {W : Ls} (k h : Nat), noLF W → h + 1 < W.length → (sf k (joinL W))[h]? = some (k + bulkL (W.take (h + 1)))
  | [], _, _, _, hh => by simp at hh
  | [x], _, _, _, hh => by simp at hh
  | x :: y :: r, k, h, hw, hh => by
    rw [joinL_two, sf_cut k _ (hw x (by simp))]
    cases h with
    | zero => simp [bulkL]; omega
    | succ h =>
      rw [List.getElem?_cons_succ, sf_join _ h (fun z hz => hw z (List.mem_cons_of_mem _ hz)) (by simpa using hh)]
      simp only [List.take_succ_cons, bulkL]
      congr 1
      omega
theorem sf_join_len : ∀ {W : Ls} (k : Nat), noLF W → W ≠ [] → (sf k (joinL W)).length + 1 = W.length
  | [], _, _, h => absurd rfl h
  | [x], k, hw, _ => by rw [joinL_one, sf_no k (hw x (by simp))]; rfl
  | x :: y :: r, k, hw, _ => by
    rw [joinL_two, sf_cut k _ (hw x (by simp)), List.length_cons, sf_join_len _ (fun z hz => hw z (List.mem_cons_of_mem _ hz)) (by simp)]
    simp
theorem brk_join {W : Ls} (hw : noLF W) (h : W ≠ []) : brk (joinL W) + 1 = W.length := sf_join_len 0 hw h
theorem lstart_lines {W : Ls} (hw : noLF W) {h : Nat} (hh : h < W.length) : lstart (joinL W) h = bulkL (W.take h) := by
  cases h with
  | zero => simp [lstart, starts, bulkL]
  | succ h => rw [lstart, starts, List.getElem?_cons_succ, sf_join 0 h hw hh]; simp
theorem lnext_lines {W : Ls} (hw : noLF W) {h : Nat} (hh : h < W.length) : lnext (joinL W) h = bulkL (W.take (h + 1)) := by
  have hne : W ≠ [] := fun e => by rw [e] at hh; simp at hh
  have hb := brk_join hw hne
  by_cases h1 : h + 1 < W.length
  · rw [lnext_in (by omega), lstart_lines hw h1]
  · have e : h = brk (joinL W) := by omega
    rw [lnext_last e, List.take_of_length_le (by omega), ← join_len hne]
/-! cuts -/
theorem take_ne {W : Ls} {a : Nat} (h0 : 0 < a) (h : a ≤ W.length) : W.take a ≠ [] := fun e => by
  have h1 := congrArg List.length e
  rw [List.length_take, List.length_nil] at h1
  omega
theorem drop_ne {W : Ls} {a : Nat} (h : a < W.length) : W.drop a ≠ [] := fun e => by
  have h1 := congrArg List.length e
  rw [List.length_drop, List.length_nil] at h1
  omega
theorem join_take_flat {W : Ls} {a : Nat} (h : a < W.length) : (joinL W).take (bulkL (W.take a)) = flatL (W.take a) := by
  have hne : W ≠ [] := fun e => by rw [e] at h; simp at h
  have hl := join_len hne
  have hlt := bulkL_take_lt h
  have h1 : (joinL W ++ [10]).take (bulkL (W.take a)) = (joinL W).take (bulkL (W.take a)) := List.take_append_of_le_length (by omega)
  rw [← h1, join_flat W hne]
  conv => lhs; rw [← List.take_append_drop a W, flatL_append]
  rw [List.take_append_of_le_length (by rw [flatL_len]; simp), List.take_of_length_le (by rw [flatL_len]; simp)]
theorem join_drop_flat {W : Ls} {a : Nat} (h : a < W.length) : (joinL W).drop (bulkL (W.take a)) ++ [10] = flatL (W.drop a) := by
  have hne : W ≠ [] := fun e => by rw [e] at h; simp at h
  have hl := join_len hne
  have hlt := bulkL_take_lt h
  have h1 : (joinL W ++ [10]).drop (bulkL (W.take a)) = (joinL W).drop (bulkL (W.take a)) ++ [10] := List.drop_append_of_le_length (by omega)
  rw [← h1, join_flat W hne]
  conv => lhs; rw [← List.take_append_drop a W, flatL_append]
  have e : bulkL (List.take a (List.take a W ++ List.drop a W)) = (flatL (W.take a)).length := by rw [flatL_len, List.take_append_drop]
  rw [e, List.drop_left]
theorem join_take_join {W : Ls} {a : Nat} (h0 : 0 < a) (h : a ≤ W.length) : (joinL W).take (bulkL (W.take a) - 1) = joinL (W.take a) := by
  have hne : W.take a ≠ [] := take_ne h0 (by omega)
  have hl := join_len hne
  refine join_of hne ?_
  by_cases h1 : a < W.length
  · rw [← join_take_flat h1]
    have e : bulkL (W.take a) = (bulkL (W.take a) - 1) + 1 := by omega
    have hg : (joinL W)[bulkL (W.take a) - 1]? = some 10 := by
      have h2 : (flatL (W.take a))[bulkL (W.take a) - 1]? = some 10 := by
        rw [← join_flat _ hne, List.getElem?_append_right (by omega)]
        rw [show bulkL (W.take a) - 1 - (joinL (W.take a)).length = 0 by omega]
        rfl
      rw [← join_take_flat h1, List.getElem?_take] at h2
      split at h2
      · exact h2
      · cases h2
    conv => rhs; rw [e, List.take_add_one, hg]
    rfl
  · have ht : W.take a = W := List.take_of_length_le (by omega)
    rw [ht] at hl hne ⊢
    rw [List.take_of_length_le (by omega)]
    exact join_flat W hne
theorem line_cut {W : Ls} {h : Nat} {x : List UInt8} (hx : W[h]? = some x) : ((joinL W).drop (bulkL (W.take h))).take x.length = x := by
  have hh : h < W.length := (List.getElem?_eq_some_iff.1 hx).1
  have h1 := join_drop_flat hh
  have h2 : W.drop h = x :: W.drop (h + 1) := by rw [List.drop_eq_getElem_cons hh, (List.getElem?_eq_some_iff.1 hx).2]
  rw [h2, flatL_cons, List.append_assoc] at h1
  have hne : W ≠ [] := fun e => by rw [e] at hh; simp at hh
  have hl := join_len hne
  have hs := bulkL_take_succ hx
  have hle := bulkL_take_le W (h + 1)
  have h3 := congrArg (List.take x.length) h1
  rw [List.take_append_of_le_length (by rw [List.length_drop]; omega), List.take_append_of_le_length (Nat.le_refl _), List.take_length] at h3
  exact h3
theorem bulk_mid (W : Ls) (a n : Nat) : bulkL (W.take a) + bulkL ((W.drop a).take n) = bulkL (W.take (a + n)) := by
  rw [List.take_add, bulkL_append]
/-! lines put in the stead of others -/
def repL (W : Ls) (a n : Nat) (L : Ls) : Ls := W.take a ++ L ++ W.drop (a + n)
theorem repL_bulk {W : Ls} {a n : Nat} {L : Ls} (h : a + n ≤ W.length) : bulkL (repL W a n L) + bulkL ((W.drop a).take n) = bulkL W + bulkL L := by
  have h1 := bulkL_append (W.take a) (W.drop a)
  have h2 := bulkL_append ((W.drop a).take n) ((W.drop a).drop n)
  rw [List.take_append_drop] at h1 h2
  rw [List.drop_drop] at h2
  rw [repL, bulkL_append, bulkL_append]
  omega
theorem rep_inner {W : Ls} {a n : Nat} {L : Ls} (h : a + n < W.length) : (joinL W).take (bulkL (W.take a)) ++ flatL L ++ (joinL W).drop (bulkL (W.take (a + n))) = joinL (repL W a n L) := by
  have hd : W.drop (a + n) ≠ [] := drop_ne h
  refine join_of (by rw [repL]; simp [hd]) ?_
  rw [repL, flatL_append, flatL_append, List.append_assoc, join_drop_flat h, join_take_flat (by omega)]
theorem rep_last {W : Ls} {a n : Nat} {L : Ls} (h : a + n = W.length) (h0 : 0 < a) (hL : L ≠ []) : (joinL W).take (bulkL (W.take a) - 1) ++ (10 :: joinL L) = joinL (repL W a n L) := by
  have hne : W.take a ≠ [] := take_ne h0 (by omega)
  refine join_of (by rw [repL]; simp [hL]) ?_
  rw [join_take_join h0 (by omega), repL, h, List.drop_length, List.append_nil, flatL_append, ← join_flat _ hne, ← join_flat L hL]
  simp
theorem rep_cut {W : Ls} {a n : Nat} (h : a + n = W.length) (h0 : 0 < a) : (joinL W).take (bulkL (W.take a) - 1) = joinL (repL W a n []) := by
  rw [join_take_join h0 (by omega), repL, h, List.drop_length]
  simp
theorem rep_all {W : Ls} {L : Ls} : repL W 0 W.length L = L := by simp [repL]
theorem noLF_rep {W : Ls} {a n : Nat} {L : Ls} (h : noLF W) (hL : noLF L) : noLF (repL W a n L) := by
  intro x hx
  rw [repL, List.mem_append, List.mem_append] at hx
  rcases hx with (h1 | h1) | h1
  · exact h x (List.mem_of_mem_take h1)
  · exact hL x h1
  · exact h x (List.mem_of_mem_drop h1)
end Go.Proofs.YtcdoomlagmddcaaGreatDoor
