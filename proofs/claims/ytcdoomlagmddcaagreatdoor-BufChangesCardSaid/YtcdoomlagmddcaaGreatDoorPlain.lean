/- Where the lines of a text begin: plain lists, no program in sight. -/
import Derived.Test.YtcdoomlagmddcaaGreatDoorKa
namespace Go.Fol
set_option linter.unusedVariables false
set_option linter.unusedSimpArgs false
/-- The places behind the breaks of a text that lies k bytes in. -/
def sf : Nat → List UInt8 → List Nat
  | _, [] => []
  | k, c :: r => if c = 10 then (k + 1) :: sf (k + 1) r else sf (k + 1) r
theorem sf_take {S : List UInt8} {k : Nat} {c : UInt8} (off : Nat) (h : S[k]? = some c) (sfa : ∀ (k : Nat) (A B : List UInt8), sf k (A ++ B) = sf k A ++ sf (k + A.length) B) : sf off (S.take (k + 1)) = sf off (S.take k) ++ if c = 10 then [off + k + 1] else [] := by
  obtain ⟨h1, h2⟩ := List.getElem?_eq_some_iff.1 h
  rw [List.take_succ_eq_append_getElem h1, sfa, h2]
  simp only [sf, List.length_take, Nat.min_eq_left (Nat.le_of_lt h1)]
/-- Where lines begin. -/
def starts (w : List UInt8) : List Nat := 0 :: sf 0 w
/-- How many breaks. -/
def brk (w : List UInt8) : Nat := (sf 0 w).length
theorem sf_append (k : Nat) (A B : List UInt8) : sf k (A ++ B) = sf k A ++ sf (k + A.length) B := by
  induction A generalizing k with
  | nil => simp [sf]
  | cons c A ih =>
    simp only [List.cons_append, sf, ih, List.length_cons]
    rw [show k + 1 + A.length = k + (A.length + 1) by omega]
    split <;> simp
theorem sf_shift (k m : Nat) (B : List UInt8) : sf (k + m) B = (sf k B).map (· + m) := by
  induction B generalizing k with
  | nil => simp [sf]
  | cons c B ih =>
    simp only [sf]
    rw [show k + m + 1 = k + 1 + m by omega, ih]
    split <;> simp
theorem sf_len (k : Nat) (B : List UInt8) : (sf k B).length = brk B := by
  have := sf_shift 0 k B
  rw [Nat.zero_add] at this
  rw [this, List.length_map, brk]
theorem sf_mem {k : Nat} {B : List UInt8} {x : Nat} (h : x ∈ sf k B) : k < x ∧ x ≤ k + B.length := by
  induction B generalizing k with
  | nil => simp [sf] at h
  | cons c B ih =>
    simp only [sf] at h
    split at h
    · rcases List.mem_cons.1 h with rfl | h
      · simp
      · have := ih h; simp; omega
    · have := ih h; simp; omega
theorem brk_append (A B : List UInt8) : brk (A ++ B) = brk A + brk B := by
  rw [brk, sf_append, List.length_append, sf_len, sf_len]
theorem brk_nil : brk [] = 0 := rfl
theorem brk_le (A : List UInt8) : brk A ≤ A.length := by
  induction A with
  | nil => simp [brk, sf]
  | cons c A ih =>
    have h : brk (c :: A) = (if c = 10 then 1 else 0) + brk A := by
      rw [show c :: A = [c] ++ A from rfl, brk_append]
      congr 1
      simp only [brk, sf]
      split <;> simp
    rw [h, List.length_cons]
    split <;> omega
theorem starts_len (w : List UInt8) : (starts w).length = brk w + 1 := by simp [starts, brk]
theorem starts_append (A B : List UInt8) : starts (A ++ B) = starts A ++ sf A.length B := by
  rw [starts, sf_append, Nat.zero_add, starts, List.cons_append]
theorem starts_le {w : List UInt8} {x : Nat} (h : x ∈ starts w) : x ≤ w.length := by
  rcases List.mem_cons.1 h with rfl | h
  · omega
  · have := sf_mem h; omega
/-- The line of a place. -/
def lineAt (w : List UInt8) (off : Nat) : Nat := brk (w.take off)
theorem lineAt_le (w : List UInt8) (off : Nat) : lineAt w off ≤ brk w := by
  conv => rhs; rw [← List.take_append_drop off w, brk_append]
  exact Nat.le_add_right _ _
/-- Just the lines up to it begin at it or ahead of it. -/
theorem starts_cmp {w : List UInt8} {off h x : Nat} (ho : off ≤ w.length) (hx : (starts w)[h]? = some x) : x ≤ off ↔ h ≤ lineAt w off := by
  have hl : (w.take off).length = off := by simp; omega
  have e : starts w = starts (w.take off) ++ sf off (w.drop off) := by
    conv => lhs; rw [← List.take_append_drop off w]
    rw [starts_append, hl]
  rw [e] at hx
  by_cases hh : h < (starts (w.take off)).length
  · rw [List.getElem?_append_left hh] at hx
    have := starts_le (List.mem_of_getElem? hx)
    rw [starts_len] at hh
    unfold lineAt
    omega
  · rw [List.getElem?_append_right (by omega)] at hx
    have := sf_mem (List.mem_of_getElem? hx)
    rw [starts_len] at hh
    unfold lineAt
    omega
/-- Indexes, as integers. -/
def istarts (w : List UInt8) : List Int := (starts w).map (fun n : Nat => (n : Int))
theorem istarts_len (w : List UInt8) : (istarts w).length = brk w + 1 := by simp [istarts, starts_len]
theorem istarts_get {w : List UInt8} {h : Nat} (hh : h < brk w + 1) : ∃ x, (starts w)[h]? = some x ∧ (istarts w)[h]? = some (x : Int) ∧ x ≤ w.length := by
  have hl : h < (starts w).length := by rw [starts_len]; exact hh
  exact ⟨(starts w)[h], List.getElem?_eq_getElem hl, by simp [istarts, List.getElem?_eq_getElem hl], starts_le (List.getElem_mem hl)⟩
/-- Where a line begins; where the next one does, or one behind the end. -/
def lstart (t : List UInt8) (h : Nat) : Nat := (starts t)[h]?.getD 0
def lnext (t : List UInt8) (h : Nat) : Nat := (starts t ++ [t.length + 1])[h + 1]?.getD 0
theorem lstart_get {t : List UInt8} {h : Nat} (hh : h < brk t + 1) : (starts t)[h]? = some (lstart t h) := by
  have hl : h < (starts t).length := by rw [starts_len]; exact hh
  simp [lstart, List.getElem?_eq_getElem hl]
theorem istart_get {t : List UInt8} {h : Nat} (hh : h < brk t + 1) : (istarts t)[h]? = some (lstart t h : Int) := by simp [istarts, lstart_get hh]
theorem lstart_le (t : List UInt8) (h : Nat) : lstart t h ≤ t.length := by
  by_cases hh : h < brk t + 1
  · exact starts_le (List.mem_of_getElem? (lstart_get hh))
  · rw [lstart, List.getElem?_eq_none (by rw [starts_len]; omega)]; exact Nat.zero_le _
theorem lnext_in {t : List UInt8} {h : Nat} (hh : h + 1 < brk t + 1) : lnext t h = lstart t (h + 1) := by
  rw [lnext, List.getElem?_append_left (by rw [starts_len]; exact hh)]; rfl
theorem lnext_last {t : List UInt8} {h : Nat} (hh : h = brk t) : lnext t h = t.length + 1 := by
  subst hh
  rw [lnext, List.getElem?_append_right (by rw [starts_len]; exact Nat.le_refl _), starts_len]
  simp
theorem lnext_le {t : List UInt8} {h : Nat} (hh : h ≤ brk t) : lnext t h ≤ t.length + 1 := by
  by_cases h1 : h = brk t
  · rw [lnext_last h1]; exact Nat.le_refl _
  · rw [lnext_in (by omega)]; have := lstart_le t (h + 1); omega
theorem lineAt_succ {t : List UInt8} {i : Nat} {c : UInt8} (h : t[i]? = some c) : lineAt t (i + 1) = lineAt t i + if c = 10 then 1 else 0 := by
  obtain ⟨h1, h2⟩ := List.getElem?_eq_some_iff.1 h
  rw [lineAt, List.take_succ_eq_append_getElem h1, brk_append, h2, lineAt]
  congr 1
  simp only [brk, sf]
  split <;> simp
theorem lineAt_zero (t : List UInt8) : lineAt t 0 = 0 := by simp [lineAt, brk, sf]
theorem lineAt_all (t : List UInt8) : lineAt t t.length = brk t := by simp [lineAt]
theorem lstart_zero (t : List UInt8) : lstart t 0 = 0 := by simp [lstart, starts]
/-- At a break. -/
theorem at_break {t : List UInt8} {i : Nat} (h : t[i]? = some 10) : lineAt t i + 1 < brk t + 1 ∧ lstart t (lineAt t i + 1) = i + 1 := by
  obtain ⟨h1, h2⟩ := List.getElem?_eq_some_iff.1 h
  have hl : (t.take i).length = i := by simp; omega
  have e1 : starts (t.take (i + 1)) = starts (t.take i) ++ [i + 1] := by
    rw [List.take_succ_eq_append_getElem h1, starts_append, hl, h2]
    rfl
  have e : starts t = starts (t.take i) ++ [i + 1] ++ sf (t.take (i + 1)).length (t.drop (i + 1)) := by
    conv => lhs; rw [← List.take_append_drop (i + 1) t]
    rw [starts_append, e1]
  have hle := lineAt_le t (i + 1)
  rw [lineAt_succ h, if_pos rfl] at hle
  refine ⟨by omega, ?_⟩
  rw [lstart, e, List.getElem?_append_left (by simp [starts_len, lineAt]), List.getElem?_append_right (by simp [starts_len, lineAt])]
  simp [starts_len, lineAt]
/-- The k-th bound: where a line begins, or one behind the end. -/
def bnd (t : List UInt8) (k : Nat) : Nat := (starts t ++ [t.length + 1])[k]?.getD 0
theorem bnd_start {t : List UInt8} {h : Nat} (hh : h < brk t + 1) : bnd t h = lstart t h := by
  rw [bnd, List.getElem?_append_left (by rw [starts_len]; exact hh)]; rfl
theorem bnd_next (t : List UInt8) (h : Nat) : bnd t (h + 1) = lnext t h := rfl
theorem bnd_end (t : List UInt8) : bnd t (brk t + 1) = t.length + 1 := by rw [bnd_next, lnext_last rfl]
theorem bnd_le {t : List UInt8} {k : Nat} (h : k ≤ brk t + 1) : bnd t k ≤ t.length + 1 := by
  by_cases h1 : k = brk t + 1
  · rw [h1, bnd_end]; exact Nat.le_refl _
  · rw [bnd_start (by omega)]; have := lstart_le t k; omega
/-- all behind one are moved. -/
def moveL (L : List Int) (line : Nat) (by_ : Int) (k : Nat) : List Int := (L.take k).take (line + 1) ++ ((L.take k).drop (line + 1)).map (· + by_) ++ L.drop k
theorem moveL_zero (L : List Int) (line : Nat) (b : Int) : moveL L line b 0 = L := by simp [moveL]
theorem moveL_all (L : List Int) (line : Nat) (b : Int) : moveL L line b L.length = L.take (line + 1) ++ (L.drop (line + 1)).map (· + b) := by simp [moveL]
theorem moveL_len (L : List Int) (line : Nat) (b : Int) (k : Nat) : (moveL L line b k).length = L.length := by
  simp only [moveL, List.length_append, List.length_map, List.length_take, List.length_drop]; omega
theorem moveL_step {L : List Int} {line : Nat} {b : Int} {k : Nat} {x : Int} (hx : L[k]? = some x) : moveL L line b (k + 1) = if line < k then (moveL L line b k).set k (x + b) else moveL L line b k := by
  obtain ⟨hk, rfl⟩ := List.getElem?_eq_some_iff.1 hx
  have e1 : L.take (k + 1) = L.take k ++ [L[k]] := List.take_succ_eq_append_getElem hk
  have e2 : L.drop k = L[k] :: L.drop (k + 1) := List.drop_eq_getElem_cons hk
  have hl : (L.take k).length = k := by simp; omega
  split
  · rename_i hlt
    simp only [moveL]
    rw [e1, e2, List.take_append_of_le_length (by omega), List.drop_append_of_le_length (by omega), List.map_append, List.set_append, if_neg (by simp; omega)]
    simp only [List.length_append, List.length_take, List.length_map, List.length_drop]
    rw [show k - (min (line + 1) (min k L.length) + (min k L.length - (line + 1))) = 0 by omega]
    simp only [List.set_cons_zero, List.map_cons, List.map_nil, List.append_assoc, List.singleton_append]
  · rename_i hlt
    simp only [moveL]
    rw [e1, e2, List.take_of_length_le (l := L.take k ++ [L[k]]) (by simp; omega), List.drop_eq_nil_of_le (by simp; omega), List.take_of_length_le (l := L.take k) (by omega), List.drop_eq_nil_of_le (as := L.take k) (by omega)]
    simp
/-- What an insertion leaves. -/
theorem starts_insert {w : List UInt8} {off : Nat} (ho : off ≤ w.length) (s : List UInt8) :
    istarts (w.take off ++ s ++ w.drop off) = (istarts w).take (lineAt w off + 1) ++ (sf off s).map (fun n : Nat => (n : Int)) ++ ((istarts w).drop (lineAt w off + 1)).map (· + (s.length : Int)) := by
  have hl : (w.take off).length = off := by simp; omega
  have e : starts w = starts (w.take off) ++ sf off (w.drop off) := by
    conv => lhs; rw [← List.take_append_drop off w]
    rw [starts_append, hl]
  have e1 : (starts w).take (lineAt w off + 1) = starts (w.take off) := by
    rw [e, List.take_append_of_le_length (by rw [starts_len]; exact Nat.le_refl _), List.take_of_length_le (by rw [starts_len]; exact Nat.le_refl _)]
  have e2 : (starts w).drop (lineAt w off + 1) = sf off (w.drop off) := by
    rw [e, List.drop_append_of_le_length (by rw [starts_len]; exact Nat.le_refl _), List.drop_eq_nil_of_le (by rw [starts_len]; exact Nat.le_refl _), List.nil_append]
  rw [istarts, starts_append, starts_append, List.length_append, hl, sf_shift off s.length, istarts, ← List.map_take, ← List.map_drop, e1, e2]
  simp [Function.comp_def]
theorem starts_delete {w : List UInt8} {off n : Nat} (ho : off + n ≤ w.length) :
    istarts (w.take off ++ w.drop (off + n)) = (istarts w).take (lineAt w off + 1) ++ ((istarts w).drop (lineAt w (off + n) + 1)).map (· + (-(n : Int))) ∧ lineAt w (off + n) = lineAt w off + brk ((w.drop off).take n) := by
  have hl : (w.take off).length = off := by simp; omega
  have hl2 : (w.take (off + n)).length = off + n := by simp; omega
  have e : starts w = starts (w.take off) ++ sf off (w.drop off) := by
    conv => lhs; rw [← List.take_append_drop off w]
    rw [starts_append, hl]
  have e' : starts w = starts (w.take (off + n)) ++ sf (off + n) (w.drop (off + n)) := by
    conv => lhs; rw [← List.take_append_drop (off + n) w]
    rw [starts_append, hl2]
  have e1 : (starts w).take (lineAt w off + 1) = starts (w.take off) := by
    rw [e, List.take_append_of_le_length (by rw [starts_len]; exact Nat.le_refl _), List.take_of_length_le (by rw [starts_len]; exact Nat.le_refl _)]
  have e2 : (starts w).drop (lineAt w (off + n) + 1) = sf (off + n) (w.drop (off + n)) := by
    rw [e', List.drop_append_of_le_length (by rw [starts_len]; exact Nat.le_refl _), List.drop_eq_nil_of_le (by rw [starts_len]; exact Nat.le_refl _), List.nil_append]
  refine ⟨?_, ?_⟩
  · rw [istarts, starts_append, hl, istarts, ← List.map_take, ← List.map_drop, e1, e2, sf_shift off n]
    simp only [List.map_append, List.map_map, Function.comp_def]
    congr 1
    apply List.map_congr_left
    intro a _
    omega
  · rw [lineAt, List.take_add, brk_append]
    rfl
end Go.Fol
