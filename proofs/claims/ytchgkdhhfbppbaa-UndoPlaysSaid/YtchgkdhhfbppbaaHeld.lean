/- Arguments that are lists of one-cell elements; sources cut out of sources; append of any source; two vectors beside each other. No program in sight. -/
import Derived.Test.YtchgkdhhfbppbaaRead
import Derived.Test.YtchgkdhhfbppbaaCells
namespace Go.Fol
open Go Go.RowKit
set_option linter.unusedVariables false
set_option linter.unusedSimpArgs false
variable {P : Program}

/-- The elements of a slice argument, one cell each. -/
theorem src_of_row {w : World} {t e : TypeId} {v : Value} (ht : P.underlying t = some (.slice e)) (hk : P.cellsOf e = 1) (h : Arg P w t v) :
    ∃ n xs, SrcV w 1 v n xs ∧ n * P.bytesOf e ≤ 140737488351232 ∧ ∀ x ∈ xs, Rd P w e [x] := by
  obtain ⟨a, n, c, rfl, h1, h2, h3, h4, h5⟩ := arg_slice ht hk (by decide) h
  have h4' : n * P.bytesOf e ≤ 140737488351232 := Nat.le_trans (Nat.mul_le_mul_right _ h2) h4
  cases a with
  | none =>
    obtain ⟨rfl, rfl⟩ := h1 rfl
    exact ⟨0, [], .inl ⟨rfl, rfl, rfl⟩, by simp, by simp⟩
  | some a =>
    by_cases hn : 0 < n
    · obtain ⟨b, off, rfl', hb, hel⟩ := h5 hn
      cases rfl'
      have hex : ∀ m, m ≤ n → ∃ xs : List Value, xs.length = m ∧ (∀ j u, xs[j]? = some u → w.cell? ⟨b, off + j, none⟩ = some u) ∧ ∀ x ∈ xs, Rd P w e [x] := by
        intro m
        induction m with
        | zero => exact fun _ => ⟨[], rfl, by simp, by simp⟩
        | succ m ih =>
          intro hm
          obtain ⟨xs, hl, hc, hr⟩ := ih (by omega)
          obtain ⟨es, he, hrd, hce⟩ := hel m (by omega)
          obtain ⟨x, rfl⟩ : ∃ x, es = [x] := by
            match es, he with
            | [x], _ => exact ⟨x, rfl⟩
          refine ⟨xs ++ [x], by simp [hl], fun j u hj => ?_, fun y hy => ?_⟩
          · by_cases hjm : j < m
            · rw [List.getElem?_append_left (by omega)] at hj
              exact hc j u hj
            · have hjl := (List.getElem?_eq_some_iff.1 hj).1
              simp [hl] at hjl
              obtain rfl : j = m := by omega
              rw [List.getElem?_append_right (by omega), hl] at hj
              simp at hj
              subst hj
              have := hce 0 _ rfl
              simpa using this
          · rcases List.mem_append.1 hy with h | h
            · exact hr y h
            · simp at h; subst h; exact hrd
      obtain ⟨xs, hl, hc, hr⟩ := hex n (Nat.le_refl _)
      exact ⟨n, xs, .inr ⟨_, _, rfl, h2, h3, by simp [hl], fun j u hj => by rw [Addr.add_lit]; exact hc j u hj⟩, h4', hr⟩
    · obtain rfl : n = 0 := by omega
      exact ⟨0, [], .inr ⟨_, _, rfl, h2, h3, rfl, by simp⟩, by simp, by simp⟩

/-- A slice argument of integers. -/
theorem arg_ints {w : World} {t e : TypeId} {v : Value} (ht : P.underlying t = some (.slice e)) (he : P.underlying e = some (.int .i64)) (hk : P.cellsOf e = 1) (hb : P.bytesOf e = 8) (h : Arg P w t v) :
    ∃ l : List Int, SrcV w 1 v l.length (ints l) ∧ l.length * 8 ≤ 140737488351232 ∧ ∀ x ∈ l, (Lit.int .i64 x).wf = true := by
  obtain ⟨n, xs, hs, hn, hr⟩ := src_of_row ht hk h
  have hex : ∀ ys : List Value, (∀ x ∈ ys, Rd P w e [x]) → ∃ l : List Int, ys = ints l ∧ ∀ x ∈ l, (Lit.int .i64 x).wf = true := by
    intro ys
    induction ys with
    | nil => exact fun _ => ⟨[], rfl, by simp⟩
    | cons y ys ih =>
      intro hy
      obtain ⟨l, rfl, hl⟩ := ih (fun x hx => hy x (List.mem_cons_of_mem _ hx))
      obtain ⟨m, hm, hw⟩ := rd_int he (hy y (List.mem_cons_self ..))
      simp at hm
      subst hm
      exact ⟨m :: l, rfl, by simpa using ⟨hw, hl⟩⟩
  obtain ⟨l, rfl, hl⟩ := hex xs hr
  have := hs.len
  simp [ints_len] at this
  subst this
  exact ⟨l, hs, by rw [hb] at hn; exact hn, hl⟩

/-- integers of a kind as cells. -/
def kints (k : IntKind) (l : List Int) : List Value := l.map (Value.int k)
theorem kints_one (k : IntKind) (l : List Int) : ∀ u ∈ kints k l, u.oneCell' = true := by
  intro u hu
  obtain ⟨n, _, rfl⟩ := List.mem_map.1 hu
  rfl
theorem kints_len (k : IntKind) (l : List Int) : (kints k l).length = l.length := by simp [kints]
theorem kints_get (k : IntKind) (l : List Int) {i : Nat} (h : i < l.length) : (kints k l)[i]? = some (.int k (l[i]?.getD 0)) := by simp [kints, h]
theorem kints_append (k : IntKind) (a b : List Int) : kints k (a ++ b) = kints k a ++ kints k b := by simp [kints]
theorem kints_take (k : IntKind) (l : List Int) (n : Nat) : kints k (l.take n) = (kints k l).take n := by simp [kints]
theorem kints_drop (k : IntKind) (l : List Int) (n : Nat) : kints k (l.drop n) = (kints k l).drop n := by simp [kints]
/-- A slice argument of integers of a kind. -/
theorem arg_kind {w : World} {t e : TypeId} {v : Value} {kd : IntKind} (ht : P.underlying t = some (.slice e)) (he : P.underlying e = some (.int kd)) (hk : P.cellsOf e = 1) {B : Nat} (hb : P.bytesOf e = B) (h : Arg P w t v) :
    ∃ l : List Int, SrcV w 1 v l.length (kints kd l) ∧ l.length * B ≤ 140737488351232 ∧ ∀ x ∈ l, (Lit.int kd x).wf = true := by
  obtain ⟨n, xs, hs, hn, hr⟩ := src_of_row ht hk h
  have hex : ∀ ys : List Value, (∀ x ∈ ys, Rd P w e [x]) → ∃ l : List Int, ys = kints kd l ∧ ∀ x ∈ l, (Lit.int kd x).wf = true := by
    intro ys
    induction ys with
    | nil => exact fun _ => ⟨[], rfl, by simp⟩
    | cons y ys ih =>
      intro hy
      obtain ⟨l, rfl, hl⟩ := ih (fun x hx => hy x (List.mem_cons_of_mem _ hx))
      obtain ⟨m, hm, hw⟩ := rd_int he (hy y (List.mem_cons_self ..))
      simp at hm
      subst hm
      exact ⟨m :: l, rfl, by simpa using ⟨hw, hl⟩⟩
  obtain ⟨l, rfl, hl⟩ := hex xs hr
  have := hs.len
  simp [kints_len] at this
  subst this
  exact ⟨l, hs, by rw [hb] at hn; exact hn, hl⟩
theorem wf_u8 {x : Int} (h : (Lit.int .u8 x).wf = true) : 0 ≤ x ∧ x ≤ 255 := by simpa [Lit.wf, IntKind.min, IntKind.max, IntKind.signed, IntKind.bits] using h
theorem wf_i64 {x : Int} (h : (Lit.int .i64 x).wf = true) : -9223372036854775808 ≤ x ∧ x ≤ 9223372036854775807 := by simpa [Lit.wf, IntKind.min, IntKind.max, IntKind.signed, IntKind.bits] using h

/-- strings as cells. -/
def strs (l : List ByteArray) : List Value := l.map Value.string
theorem strs_one (l : List ByteArray) : ∀ u ∈ strs l, u.oneCell' = true := by
  intro u hu
  obtain ⟨n, _, rfl⟩ := List.mem_map.1 hu
  rfl
theorem strs_len (l : List ByteArray) : (strs l).length = l.length := by simp [strs]
theorem strs_get (l : List ByteArray) {k : Nat} (h : k < l.length) : (strs l)[k]? = some (.string (l[k]?.getD ⟨#[]⟩)) := by
  simp [strs, h]
theorem strs_append (a b : List ByteArray) : strs (a ++ b) = strs a ++ strs b := by simp [strs]
theorem strs_take (l : List ByteArray) (k : Nat) : strs (l.take k) = (strs l).take k := by simp [strs]
theorem strs_drop (l : List ByteArray) (k : Nat) : strs (l.drop k) = (strs l).drop k := by simp [strs]
theorem strs_set (l : List ByteArray) (k : Nat) (x : ByteArray) : strs (l.set k x) = (strs l).set k (.string x) := by simp [strs, List.map_set]
/-- A slice argument of strings. -/
theorem arg_strs {w : World} {t e : TypeId} {v : Value} (ht : P.underlying t = some (.slice e)) (he : P.underlying e = some .string) (hk : P.cellsOf e = 1) (hb : P.bytesOf e = 16) (h : Arg P w t v) :
    ∃ l : List ByteArray, SrcV w 1 v l.length (strs l) ∧ l.length * 16 ≤ 140737488351232 ∧ ∀ x ∈ l, x.size ≤ 140737488351232 := by
  obtain ⟨n, xs, hs, hn, hr⟩ := src_of_row ht hk h
  have hex : ∀ ys : List Value, (∀ x ∈ ys, Rd P w e [x]) → ∃ l : List ByteArray, ys = strs l ∧ ∀ x ∈ l, x.size ≤ 140737488351232 := by
    intro ys
    induction ys with
    | nil => exact fun _ => ⟨[], rfl, by simp⟩
    | cons y ys ih =>
      intro hy
      obtain ⟨l, rfl, hl⟩ := ih (fun x hx => hy x (List.mem_cons_of_mem _ hx))
      obtain ⟨m, hm, hw⟩ := rd_string he (hy y (List.mem_cons_self ..))
      simp at hm
      subst hm
      exact ⟨m :: l, rfl, by simpa using ⟨hw, hl⟩⟩
  obtain ⟨l, rfl, hl⟩ := hex xs hr
  have := hs.len
  simp [strs_len] at this
  subst this
  exact ⟨l, hs, by rw [hb] at hn; exact hn, hl⟩

/-- A source, cut. -/
theorem SrcV.sliced {w : World} {k : Nat} {a : Option Addr} {n c : Nat} {xs : List Value} (h : SrcV w k (.slice a n c) n xs) {i j : Nat} (hij : i ≤ j) (hj : j ≤ n) (hk : 0 < k) :
    SrcV w k (sliced a i j c k) (j - i) ((xs.drop (i * k)).take ((j - i) * k)) := by
  have hlen := h.len
  have hm1 : i * k ≤ j * k := Nat.mul_le_mul_right _ hij
  have hm2 : j * k ≤ n * k := Nat.mul_le_mul_right _ hj
  have hm3 : (j - i) * k = j * k - i * k := Nat.sub_mul _ _ _
  rcases h with ⟨h1, rfl, rfl⟩ | ⟨a', c', h1, h2, h3, h4, h5⟩
  · cases h1
    obtain rfl : j = 0 := by omega
    obtain rfl : i = 0 := by omega
    exact .inl ⟨by simp [Go.sliced], rfl, by simp⟩
  · cases h1
    refine .inr ⟨if c = i then a' else a'.add (i * k), c - i, ?_, by omega, by unfold maxLen at *; omega, by rw [List.length_take, List.length_drop]; omega, fun q u hq => ?_⟩
    · unfold Go.sliced
      split <;> simp
    · have hql := (List.getElem?_eq_some_iff.1 hq).1
      rw [List.length_take, List.length_drop] at hql
      have hci : ¬ (c = i) := by
        intro e
        subst e
        have : j = c := by omega
        subst this
        omega
      rw [if_neg hci]
      rw [List.getElem?_take_of_lt (by omega), List.getElem?_drop] at hq
      have h0 := h5 0 _ (List.getElem?_eq_getElem (by omega))
      have hadd : a'.add 0 = a' := by simp [Addr.add]
      rw [hadd] at h0
      have hs := World.cell?_spot h0
      obtain ⟨b, off, spot⟩ := a'
      obtain rfl : spot = none := hs
      have := h5 _ u hq
      rw [Addr.add_lit] at this ⊢
      rw [Addr.add_lit]
      rw [Nat.add_assoc]
      exact this

theorem SrcV.lt {w : World} {k : Nat} {v : Value} {n : Nat} {xs : List Value} (h : SrcV w k v n xs) (hn : 0 < n) (hk : 0 < k) {b : Nat} (hb : v.ownBlock = some b) : b < w.heap.size := by
  obtain ⟨b', off, c, rfl, _, h2, _⟩ := h.cells hn hk
  cases hb
  exact h2
theorem SrcV.keep_if {S : List Nat} {w w' : World} {k : Nat} {v : Value} {n : Nat} {xs : List Value} (h : SrcV w k v n xs) (g : Chg S w w') (hn : 0 < n → ∀ b, v.ownBlock = some b → b ∉ S) : SrcV w' k v n xs := by
  by_cases h0 : 0 < n
  · exact h.keep g (hn h0)
  · obtain rfl : n = 0 := by omega
    rcases h with h | ⟨a, c, rfl, h1, h2, h3, h4⟩
    · exact .inl h
    · have : xs = [] := List.eq_nil_of_length_eq_zero (by simpa using h3)
      subst this
      exact .inr ⟨a, c, rfl, h1, h2, h3, by simp⟩
/-- An old source, when only what is newer than w0 has changed. -/
theorem Own.src {w0 w : World} {vt e : TypeId} {k p : Nat} {sv : Value} {n : Nat} {xs : List Value} (h : Own w0 w vt e k p sv n xs) {k' : Nat} {v : Value} {m : Nat} {ys : List Value} (hv : SrcV w0 k' v m ys) : SrcV w k' v m ys := hv.keep h.chg (by simp)
/-- An old source is not the vector's row. -/
theorem Own.off_src {w0 w : World} {vt e : TypeId} {k p : Nat} {sv : Value} {n : Nat} {xs : List Value} (h : Own w0 w vt e k p sv n xs) {k' : Nat} {v : Value} {m : Nat} {ys : List Value} (hv : SrcV w0 k' v m ys) (hk : 0 < k') :
    0 < m → ∀ b, v.ownBlock = some b → sv.ownBlock ≠ some b := fun hm b hb hs => Nat.lt_irrefl _ (Nat.lt_of_lt_of_le (hv.lt hm hk hb) (h.new b (by simp [vfoot, hs])))

/-- append of any source. -/
theorem run_append_src (w : World) (t ty e : TypeId) (i : TypeInfo) (z : Value) (k bytes : Nat) (ht : P.underlying t = some (.slice e)) (hi : P.info? e = some i) (hz : i.zero = some z)
    (hsize : i.size = k) (hby : i.bytes = bytes) (hzs : z.cells.size = k) (hsz : 0 < k)
    (s : Value) (n : Nat) (xs : List Value) (hs : w.ownsRow 0 e k s n xs)
    (x : Value) (m : Nat) (vs : List Value) (hv : SrcV w k x m vs) (h1 : ∀ u ∈ vs, u.oneCell' = true)
    (h63 : n + m ≤ maxLen) (hbytes : (n + m) * bytes ≤ 140737488355328) :
    ∃ v' w', (Builtin.append_ #[t, t] ty #[s, x]).run P w = .ok v' w' ∧ w'.ownsRow 0 e k v' (n + m) (xs ++ vs) ∧ Chg s.ownBlock.toList w w' ∧
      (∀ b, v'.ownBlock = some b → s.ownBlock = some b ∨ w.heap.size ≤ b) := by
  rcases hv with ⟨rfl, rfl, rfl⟩ | ⟨a, c, rfl, h2, h3, h4, h5⟩
  · refine ⟨s, w, ?_, by simpa using hs, Chg.refl _ _, fun b hb => .inl hb⟩
    rcases row_form hs with ⟨rfl, rfl, _⟩ | ⟨g, cap, cur, rfl, hg, hnc, hcm, hcs, htk, hxl⟩
    · simp [Builtin.append_, run_underlying ht, sizeOf, typeInfo, hi, Builtin.lenOf, Builtin.firstCells]
    · simp [Builtin.append_, run_underlying ht, sizeOf, typeInfo, hi, Builtin.lenOf, Builtin.firstCells, hnc, storeCells]
  · exact run_append_row w t ty e i z k bytes ht hi hz hsize hby hzs hsz s n xs hs a m c vs h4 h5 h1 h63 hbytes

/-- A vector beside one that moved. -/
theorem Own.other {w0 w w' : World} {vt e vt' e' : TypeId} {k k' p q : Nat} {sv sv' tv : Value} {n m : Nat} {xs ys : List Value}
    (h : Own w0 w vt e k p sv n xs) (g : Own w0 w vt' e' k' q tv m ys) (hm : Moved w w' p sv sv') (hd : ∀ b ∈ vfoot p sv, b ∉ vfoot q tv) :
    Own w0 w' vt' e' k' q tv m ys ∧ ∀ b ∈ vfoot p sv', b ∉ vfoot q tv :=
  ⟨⟨g.vec.keep' hm.chg (fun b hb hc => hd b hc hb), h.chg.trans hm.chg (fun b hb hl => absurd hl (Nat.not_lt.2 (h.new b hb))), g.new⟩, hm.off g.vec.foot_lt hd⟩
end Go.Fol
