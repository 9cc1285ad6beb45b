/- Texts of this seat, joined: ML MG. -/
import Derived.Test.YtcdoomlagmddcaaGreatDoorKa
import Derived.Lib.Join
import Derived.Lib.SplitLaws
import Derived.Lib.IndexBytes
/-! Lines and keys: plain. -/
namespace Go.Proofs.YtcdoomlagmddcaaGreatDoor
open Go Go.RowKit Go.Fol
set_option linter.unusedVariables false
set_option linter.unusedSimpArgs false
/-- Cut at LFs. -/
def linesL : List UInt8 → List (List UInt8)
  | [] => [[]]
  | b :: l => if b = 10 then [] :: linesL l else match linesL l with
    | [] => [[b]]
    | x :: r => (b :: x) :: r
theorem linesL_ne : ∀ l, linesL l ≠ []
  | [] => by simp [linesL]
  | b :: l => by
    unfold linesL
    split
    · simp
    · split <;> simp
def joinL (L : List (List UInt8)) : List UInt8 := Lib.join L [10]
theorem join_lines : ∀ l, joinL (linesL l) = l
  | [] => rfl
  | b :: l => by
    have ih := join_lines l
    unfold linesL
    cases h : linesL l with
    | nil => exact absurd h (linesL_ne l)
    | cons x r =>
      rw [h] at ih
      simp only [joinL, Lib.join_cons] at ih ⊢
      split
      · rename_i hb
        subst hb
        rw [Lib.join_cons]
        simp only [Lib.joinTail, List.map_cons, List.flatten_cons, List.nil_append] at ih ⊢
        rw [List.append_assoc, ih]
        rfl
      · rw [Lib.join_cons, List.cons_append, ih]
theorem index10_eq (l : List UInt8) : Lib.index (10 :: l) [10] = 0 := by
  rw [Lib.index_one, Lib.indexByte]
  simp
theorem index10_ne {b : UInt8} (h : b ≠ 10) (l : List UInt8) : Lib.index (b :: l) [10] = if Lib.index l [10] == -1 then -1 else Lib.index l [10] + 1 := by
  rw [Lib.index_one, Lib.index_one, Lib.indexByte]
  simp [h]
theorem splitK_ne {b : UInt8} (h : b ≠ 10) : ∀ (k : Nat) (l : List UInt8), Lib.splitK [10] 0 k (b :: l) = match Lib.splitK [10] 0 k l with | [] => [[b]] | x :: r => (b :: x) :: r
  | 0, l => rfl
  | k + 1, l => by
    rw [Lib.splitK, Lib.splitK, index10_ne h]
    by_cases hm : Lib.index l [10] = -1
    · simp [hm]
    · have hge := Lib.index_ge l [10]
      have h1 : (Lib.index l [10] == -1) = false := beq_eq_false_iff_ne.2 hm
      have h2 : (Lib.index l [10] + 1 == -1) = false := beq_eq_false_iff_ne.2 (by omega)
      rw [h1]
      simp only [Bool.false_eq_true, if_false]
      rw [h2]
      simp only [Bool.false_eq_true, if_false, Nat.add_zero]
      obtain ⟨j, hj⟩ : ∃ j : Nat, Lib.index l [10] = j := ⟨(Lib.index l [10]).toNat, by omega⟩
      rw [hj]
      rw [show ((j : Int) + 1).toNat = j + 1 by omega, Int.toNat_natCast]
      simp
theorem split_lines : ∀ (l : List UInt8), Lib.splitK [10] 0 (Lib.count l [10]) l = linesL l
  | [] => by
    rw [Lib.count_one]
    rfl
  | b :: l => by
    have ih := split_lines l
    by_cases h : b = 10
    · subst h
      rw [Lib.count_cons_eq, Nat.add_comm, Lib.splitK, index10_eq, linesL, if_pos rfl, ← ih]
      simp
    · rw [Lib.count_cons_ne _ _ _ h, splitK_ne h, ih, linesL, if_neg h]
theorem splitB_lines (l : List UInt8) : (Lib.splitB ⟨#[10]⟩ 0 (Lib.countB (bs l) ⟨#[10]⟩) (bs l)) = (linesL l).map bs := by
  have h := Lib.splitB_data (⟨#[10]⟩ : ByteArray) 0 (Lib.countB (bs l) ⟨#[10]⟩) (bs l)
  have hc : Lib.countB (bs l) ⟨#[10]⟩ = Lib.count l [10] := by unfold Lib.countB; rw [bs_data]
  rw [bs_data, hc] at h
  have h2 : (Lib.splitK (⟨#[10]⟩ : ByteArray).data.toList 0 (Lib.count l [10]) l) = linesL l := split_lines l
  rw [h2, ← hc] at h
  have h3 := congrArg (List.map bs) h
  rw [List.map_map] at h3
  rw [← h3]
  conv => lhs; rw [← List.map_id (Lib.splitB _ _ _ _)]
  rfl
theorem lines_len (l : List UInt8) : (linesL l).length = Lib.countB (bs l) ⟨#[10]⟩ + 1 := by
  have h := Lib.splitB_all (⟨#[10]⟩ : ByteArray) (by decide) 0 _ (bs l) rfl
  rw [splitB_lines, List.length_map] at h
  exact h
/-- A register's keys. -/
def keysL (k : Int) (L : List (List UInt8)) : List UInt8 := joinL L ++ (if k = 1 then [10] else [])
end Go.Proofs.YtcdoomlagmddcaaGreatDoor

/-! Lines cut one by one, keys joined one by one: plain. -/
namespace Go.Proofs.YtcdoomlagmddcaaGreatDoor
open Go Go.RowKit Go.Fol
set_option linter.unusedVariables false
set_option linter.unusedSimpArgs false
/-- The lines of what is still to come, the first one begun. -/
def linesAt (cur : List UInt8) (l : List UInt8) : List (List UInt8) := match linesL l with
  | [] => [cur]
  | x :: r => (cur ++ x) :: r
theorem linesAt_nil (l : List UInt8) : linesAt [] l = linesL l := by
  unfold linesAt
  split
  · rename_i h; exact absurd h (linesL_ne l)
  · rename_i h; rw [h]; rfl
theorem linesAt_end (cur : List UInt8) : linesAt cur [] = [cur] := by simp [linesAt, linesL]
theorem linesAt_lf (cur l : List UInt8) : linesAt cur (10 :: l) = cur :: linesL l := by simp [linesAt, linesL]
theorem linesAt_on {b : UInt8} (cur l : List UInt8) (h : b ≠ 10) : linesAt cur (b :: l) = linesAt (cur ++ [b]) l := by
  unfold linesAt
  rw [show linesL (b :: l) = (match linesL l with | [] => [[b]] | x :: r => (b :: x) :: r) by rw [linesL]; exact if_neg h]
  cases h : linesL l with
  | nil => rfl
  | cons x r => simp
/-- How far the cutting is: D told, from where, at i. -/
structure Cut (l : List UInt8) (i from_ : Nat) (D : List (List UInt8)) : Prop where
  ge : from_ ≤ i
  le : i ≤ l.length
  eq : linesL l = D ++ linesAt ((l.take i).drop from_) (l.drop i)
theorem cut_start (l : List UInt8) : Cut l 0 0 [] := ⟨Nat.le_refl _, Nat.zero_le _, by simp [linesAt_nil]⟩
theorem cut_end {l : List UInt8} {from_ : Nat} {D : List (List UInt8)} (h : Cut l l.length from_ D) : linesL l = D ++ [(l.take l.length).drop from_] := by
  have := h.eq
  rw [List.drop_length, linesAt_end] at this
  exact this
theorem cut_lf {l : List UInt8} {i from_ : Nat} {D : List (List UInt8)} (h : Cut l i from_ D) (hb : l[i]? = some 10) : Cut l (i + 1) (i + 1) (D ++ [(l.take i).drop from_]) := by
  have hi : i < l.length := (List.getElem?_eq_some_iff.1 hb).1
  refine ⟨Nat.le_refl _, hi, ?_⟩
  have hd : l.drop i = 10 :: l.drop (i + 1) := by rw [List.drop_eq_getElem_cons hi]; have := (List.getElem?_eq_some_iff.1 hb).2; rw [this]
  have := h.eq
  rw [hd, linesAt_lf] at this
  rw [this, List.append_assoc]
  have e : (l.take (i + 1)).drop (i + 1) = [] := by rw [List.drop_eq_nil_iff, List.length_take]; omega
  rw [e, linesAt_nil]
  rfl
theorem cut_on {l : List UInt8} {i from_ : Nat} {D : List (List UInt8)} {b : UInt8} (h : Cut l i from_ D) (hb : l[i]? = some b) (hn : b ≠ 10) : Cut l (i + 1) from_ D := by
  have hi : i < l.length := (List.getElem?_eq_some_iff.1 hb).1
  refine ⟨by have := h.ge; omega, hi, ?_⟩
  have hd : l.drop i = b :: l.drop (i + 1) := by rw [List.drop_eq_getElem_cons hi]; have := (List.getElem?_eq_some_iff.1 hb).2; rw [this]
  have ht : (l.take (i + 1)).drop from_ = (l.take i).drop from_ ++ [b] := by
    rw [List.take_add_one, hb]
    have hge := h.ge
    rw [List.drop_append_of_le_length (by rw [List.length_take]; omega)]
    rfl
  have := h.eq
  rw [hd, linesAt_on _ _ hn] at this
  rw [this, ht]
/-- Keys so far. -/
theorem joinL_snoc (L : List (List UInt8)) (x : List UInt8) : joinL (L ++ [x]) = joinL L ++ (if L = [] then [] else [10]) ++ x := by
  cases L with
  | nil => simp [joinL, Lib.join_nil, Lib.join_one]
  | cons y r => simp [joinL, Lib.join_cons, Lib.joinTail]
theorem joinL_take {L : List (List UInt8)} {i : Nat} {x : List UInt8} (h : L[i]? = some x) : joinL (L.take (i + 1)) = (joinL (L.take i) ++ (if 0 < i then [10] else [])) ++ x := by
  rw [List.take_add_one, h]
  show joinL (L.take i ++ [x]) = _
  rw [joinL_snoc]
  have hi : i < L.length := (List.getElem?_eq_some_iff.1 h).1
  congr 2
  by_cases h0 : i = 0
  · subst h0; simp
  · have hne : ¬ L.take i = [] := by
      intro h'
      have hm : min i L.length = 0 := by rw [← List.length_take, h']; rfl
      omega
    rw [if_neg hne, if_pos (show 0 < i by omega)]
theorem joinL_mono (L : List (List UInt8)) (i : Nat) : (joinL (L.take i)).length ≤ (joinL L).length := by
  cases L with
  | nil => simp
  | cons y r =>
    cases i with
    | zero => simp [joinL, Lib.join_nil]
    | succ i =>
      simp only [List.take_succ_cons, joinL, Lib.join_cons, Lib.joinTail, List.length_append, List.map_take]
      have h2 : (r.map ([10] ++ ·)).take i ++ (r.map ([10] ++ ·)).drop i = r.map ([10] ++ ·) := List.take_append_drop _ _
      have := congrArg (fun l : List (List UInt8) => l.flatten.length) h2
      simp only [List.flatten_append, List.length_append] at this
      omega
/-- The sum of the lengths, with one more for each. -/
def bulkL : List (List UInt8) → Nat
  | [] => 0
  | x :: r => x.length + 1 + bulkL r
theorem joinL_bulk (L : List (List UInt8)) : (joinL L).length ≤ bulkL L := by
  cases L with
  | nil => simp [joinL, Lib.join_nil]
  | cons y r =>
    have : ∀ r : List (List UInt8), (r.map ([10] ++ ·)).flatten.length = bulkL r := by
      intro r
      induction r with
      | nil => rfl
      | cons z r ih => simp only [List.map_cons, List.flatten_cons, List.length_append, ih, bulkL, List.length_cons, List.length_nil]; omega
    simp only [joinL, Lib.join_cons, Lib.joinTail, List.length_append, this, bulkL]
    omega
end Go.Proofs.YtcdoomlagmddcaaGreatDoor
