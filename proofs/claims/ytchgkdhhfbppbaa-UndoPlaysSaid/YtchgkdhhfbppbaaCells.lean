/- What copy, slices.overlaps and an append of zeros do to a row that the call owns, whatever the elements' size; what slices.Insert and slices.Delete leave of the cells. No program in sight. -/
import Derived.Test.YtchgkdhhfbppbaaOwn
import Derived.Laws.CopyOwn
import Derived.Laws.IdiomCopy
import Derived.Laws.Externs
import Derived.Lib.AppendZerosOnto
import Derived.Lib.AppendZeros
import Derived.Deep.RegionLaw
namespace Go.Fol
open Go Go.RowKit
set_option linter.unusedVariables false
set_option linter.unusedSimpArgs false

section
variable {P : Program}
/-- copy into a row that lies plain, k cells an element. -/
theorem run_copy_k (w : World) (dT sT ty elem : TypeId) (k g o dLen dCap : Nat) (a : Addr) (sLen sCap : Nat) (cur : Array Value) (t : TypeId) (cs : List Value)
    (hu : P.underlying dT = some (.slice elem)) (hs : (P.info? elem).map (·.size) = some k)
    (hg : w.heap[g]? = some (.cells cur t (0, 0))) (hn : cs.length = Nat.min sLen dLen * k)
    (hsrc : ∀ j v, cs[j]? = some v → w.cell? (a.add j) = some v) (hfit : o + cs.length ≤ cur.size) (h1 : ∀ v ∈ cs, v.oneCell' = true) :
    (Builtin.copy_ #[dT, sT] ty #[.slice (some ⟨g, o, none⟩) dLen dCap, .slice (some a) sLen sCap]).run P w =
      .ok (goInt (Nat.min sLen dLen)) (w.setRow g (splice cur.toList o cs).toArray) := by
  have hl := run_loadCells_list (P := P) w a cs hsrc
  have hst := run_storeCells_at P g o t cs 0 cur w hg (by simpa using hfit) h1
  cases hq : P.info? elem with
  | none => simp [hq] at hs
  | some i =>
    have hi : i.size = k := by simpa [hq] using hs
    rw [hn] at hl
    simp only [Nat.add_zero, List.append_assoc] at hst
    simp [Builtin.copy_, run_underlying hu, Builtin.lenOf, Builtin.firstCells, sizeOf, typeInfo, hq, hi, hl, hst, splice]

/-- slices.overlaps of a slice in one block and a row in another that lies plain: false. -/
theorem run_overlaps_row (w : World) (tS tR e : TypeId) (ht : P.underlying tS = some (.slice e)) (size : Nat) (hz : ∀ w, (Go.sizeOf e).run P w = .ok size w)
    (a b : Addr) (la ca lb cb : Nat) (hne : a.block ≠ b.block) (cA cB : Array Value) (tA tB : TypeId) (fA : Nat × Nat)
    (hsa : w.heap[a.block]? = some (.cells cA tA fA)) (hsb : w.heap[b.block]? = some (.cells cB tB (0, 0))) (hkA : cA.size ≠ 0) :
    (Extern.SlicesOverlaps.overlaps #[tS, tS] #[tR] #[.slice (some a) la ca, .slice (some b) lb cb]).run P w = .ok (.bool false) w := by
  have hnb : (a.block != b.block) = true := by simpa using hne
  have hnb' : (a.block == b.block) = false := by simpa using hne
  have hsha : w.shape? a.block = some (tA, cA.size) := by simp [World.shape?, hsa]
  have hshb : w.shape? b.block = some (tB, cB.size) := by simp [World.shape?, hsb]
  have hfb : ∀ j, w.frozen? { block := b.block, off := j } = false := fun j => by simp [World.frozen?, hsb]
  have hfb' : w.frozen? b = false := by simp [World.frozen?, hsb]
  change Sem.run P (α := Value) (do
    let some t := (#[tS, tS] : Array TypeId)[0]? | stuck "slices.overlaps: no parameter types"
    let .slice elem ← underlying t | stuck "slices.overlaps: slice type expected"
    let size ← sizeOf elem
    match (some a : Option Addr), (some b : Option Addr) with
    | some a, some b =>
      if la = 0 ∨ lb = 0 ∨ size = 0 then pure (Value.bool false)
      else if a.block != b.block && (← frozen a) && (← frozen b) then unsupported .addressObserved
      else do
        if a.block != b.block then do
          noView a; noView b
          if ← mayBeOne a b then return Value.bool ((← choose (.extern "sameAddr.stringBytes" 2)) == 1)
        pure (Value.bool (a.block == b.block && a.off < b.off + lb * size && b.off < a.off + la * size))
    | _, _ => pure (Value.bool false)) w = _
  by_cases h0 : la = 0 ∨ lb = 0 ∨ size = 0
  · simp [run_underlying ht, hz, h0]
  · obtain ⟨nA, hA⟩ : ∃ nA, cA.size = nA + 1 := ⟨cA.size - 1, by omega⟩
    rw [hA] at hsha
    cases hfa : w.frozen? a <;> cases hfe : w.frozen? { block := a.block, off := nA + 1 } <;>
      simp [run_underlying ht, hz, h0, hnb, hnb', frozen, noView, viewAt, mayBeOne, stringish, shape, Sem.run, hsha, hshb, hfa, hfe, hfb, hfb']

/-- The operation 'copy(d, s)', where its run is known. -/
theorem wp_copy_known (w : World) {o : Oper} {a : Act} {K : Act → World → Prop} {Q : Exit → Act → World → Prop} (d s : Operand) (t t' : TypeId)
    (ho : o.op = .call { callee := .builtin .copy, args := #[d, s], argTypes := #[t, t'] }) (v u : Value) (hd : a.eval d = v) (hs : a.eval s = u) {v' : Value} {w' : World}
    (hr : (Builtin.copy_ #[t, t'] o.type #[v, u]).run P w = .ok v' w') (h : K (a.put o.dst v') w') : o.wp P a w K Q := by
  unfold Oper.wp execOp
  simp only [ho, resolve, invoke, builtin, Sem.run_bind, Sem.run_pure, Result.andThen_ok, List.map_toArray, List.map_cons, List.map_nil, hd, hs, hr]
  exact h
theorem wpList_copy_known (w : World) {ops : Array Oper} {rest : List Oper} {o : Oper} {a : Act} {Q : Exit → Act → World → Prop} (hgd : o.guard = none) (d s : Operand) (t t' : TypeId)
    (ho : o.op = .call { callee := .builtin .copy, args := #[d, s], argTypes := #[t, t'] }) (v u : Value) (hd : a.eval d = v) (hs : a.eval s = u) {v' : Value} {w' : World}
    (hr : (Builtin.copy_ #[t, t'] o.type #[v, u]).run P w = .ok v' w') (h : wpList P ops Q rest (a.put o.dst v') w') : wpList P ops Q (o :: rest) a w :=
  wpList_plain hgd fun _ hK => wp_copy_known w d s t t' ho v u hd hs hr (hK _ _ h)
/-- The same as one step of a region that draws its order. -/
theorem step_copy_known {ops : Array Oper} {o : Oper} {a : Act} {w : World} {K : Act → World → Prop} {Q : Exit → Act → World → Prop} {E : Prop}
    (hg : o.guard = none) (d x : Operand) (dT sT : TypeId) (hop : o.op = Op.call { callee := Callee.builtin Builtin.copy, args := #[d, x], argTypes := #[dT, sT] })
    (v u : Value) (hd : a.eval d = v) (hx : a.eval x = u) {v' : Value} {w' : World} (hr : (Builtin.copy_ #[dT, sT] o.type #[v, u]).run P w = .ok v' w') (hK : K (a.put o.dst v') w') :
    if Region.wanted o (yielded ops a.tmps) = true then Oper.wp P o a w K Q else E := by
  have hw : Region.wanted o (yielded ops a.tmps) = true := by simp [Region.wanted, hg]
  rw [if_pos hw]
  unfold Oper.wp
  simp [execOp, hop, resolve, invoke, builtin, hd, hx, hr, Result.andThen]
  exact hK
end

/-! ### the cells -/
theorem splice_take {α : Type} (L : List α) (off : Nat) (cs : List α) (h : off + cs.length ≤ L.length) (n : Nat) (hn : n = off + cs.length) : (splice L off cs).take n = L.take off ++ cs := by
  subst hn
  simp only [splice, ← List.append_assoc]
  rw [List.take_append_of_le_length (by simp; omega), List.take_of_length_le (by simp; omega)]
/-- In place: what stood from i on goes m further, then the new ones are laid. -/
theorem insert_cells {α : Type} (L xs vs : List α) (a b : Nat) (hL : L.take (xs.length) = xs) (hb : b = vs.length) (ha : a ≤ xs.length) (hfit : xs.length + b ≤ L.length) :
    (splice (splice L (a + b) (xs.drop a)) a vs).take (xs.length + b) = xs.take a ++ vs ++ xs.drop a := by
  subst hb
  have hta : L.take a = xs.take a := by rw [← hL, List.take_take]; congr 1; omega
  have hl1 : (splice L (a + vs.length) (xs.drop a)).length = L.length := length_splice _ _ _ (by simp; omega)
  have e1 : (splice L (a + vs.length) (xs.drop a)).take a = xs.take a := by
    rw [splice, List.take_append_of_le_length (by simp; omega), List.take_take, ← hta]; congr 1; omega
  have e2 : (splice L (a + vs.length) (xs.drop a)).drop (a + vs.length) = xs.drop a ++ L.drop (xs.length + vs.length) := by
    rw [splice, List.drop_append_of_le_length (by simp; omega), List.drop_eq_nil_of_le (by simp; omega), List.nil_append]
    congr 2; simp; omega
  rw [splice, e1, e2, ← List.append_assoc, ← List.append_assoc]
  rw [List.take_append_of_le_length (by simp; omega), List.take_of_length_le (by simp; omega)]
/-- In a new row: what stood ahead, the new ones, what stood from i on. -/
theorem insert_cells_new {α : Type} (L xs vs : List α) (a b : Nat) (hL : L.take a = xs.take a) (hb : b = vs.length) (ha : a ≤ xs.length) (hfit : xs.length + b ≤ L.length) :
    (splice (splice L a vs) (a + b) (xs.drop a)).take (xs.length + b) = xs.take a ++ vs ++ xs.drop a := by
  subst hb
  have e1 : (splice L a vs).take (a + vs.length) = xs.take a ++ vs := by rw [splice_take _ _ _ (by omega) _ rfl, hL]
  have hl1 : (splice L a vs).length = L.length := length_splice _ _ _ (by omega)
  have hl2 : ((splice L a vs).take (a + vs.length)).length = a + vs.length := by rw [List.length_take, hl1]; omega
  rw [splice, ← List.append_assoc, List.take_append_of_le_length (by rw [List.length_append, hl2]; simp; omega), List.take_of_length_le (by rw [List.length_append, hl2]; simp; omega), e1]

/-- A row that was written over its whole block: what it owns now. -/
theorem row_setRow {w : World} {e : TypeId} {k g n cap : Nat} {cur : List Value} {c0 : Array Value} {xs : List Value} (hg : w.heap[g]? = some (.cells c0 e (0, 0))) (hn : n ≤ cap) (hc : cap ≤ maxLen) (hl : cur.length = cap * k) (hx : cur.take (n * k) = xs) :
    (w.setRow g cur.toArray).ownsRow 0 e k (.slice (some ⟨g, 0, none⟩) n cap) n xs := by
  refine ⟨?_, .inr ⟨g, cap, _, rfl, Nat.zero_le _, setRow_heap w g _ _ e _ hg, hn, hc, by simpa using hl, by simpa using hx⟩⟩
  rw [← hx, List.length_take, hl]
  exact Nat.min_eq_left (Nat.mul_le_mul_right k hn)
theorem Chg.setRow {S : List Nat} {a w : World} (h : Chg S a w) {g : Nat} (hg : g < a.heap.size → g ∈ S) (cs : Array Value) : Chg S a (w.setRow g cs) :=
  ⟨h.os, h.tape, h.output, by simpa using h.size, fun k hk hn => (setRow_other w g k cs (fun e => hn (e ▸ hg (e ▸ hk)))).trans (h.block k hk hn)⟩
theorem setRow_drew (w : World) (g : Nat) (cs : Array Value) : (w.setRow g cs).drew = w.drew.setRow g cs := rfl
/-! ### append to a row that the call owns: where it lies behind -/
section
variable {P : Program}
theorem run_append_row (w : World) (t ty e : TypeId) (i : TypeInfo) (z : Value) (k bytes : Nat) (ht : P.underlying t = some (.slice e)) (hi : P.info? e = some i) (hz : i.zero = some z)
    (hsize : i.size = k) (hby : i.bytes = bytes) (hzs : z.cells.size = k) (hsz : 0 < k)
    (s : Value) (n : Nat) (xs : List Value) (hs : w.ownsRow 0 e k s n xs)
    (a : Addr) (m c : Nat) (vs : List Value) (hl : vs.length = m * k) (hvs : ∀ j u, vs[j]? = some u → w.cell? (a.add j) = some u) (h1 : ∀ u ∈ vs, u.oneCell' = true)
    (h63 : n + m ≤ maxLen) (hbytes : (n + m) * bytes ≤ 140737488355328) :
    ∃ v' w', (Builtin.append_ #[t, t] ty #[s, .slice (some a) m c]).run P w = .ok v' w' ∧ w'.ownsRow 0 e k v' (n + m) (xs ++ vs) ∧ Chg s.ownBlock.toList w w' ∧
      (∀ b, v'.ownBlock = some b → s.ownBlock = some b ∨ w.heap.size ≤ b) := by
  obtain ⟨v', w', hr, hown, hgr, _⟩ := run_append_own (P := P) w 0 t ty e i z k bytes ht hi hz hsize hby hzs hsz s n xs hs a m c vs hl hvs h1 h63 hbytes (Nat.zero_le _)
  refine ⟨v', w', hr, hown, (Chg.refl _ w).grown hgr (fun k hk _ => by simp [hk]), ?_⟩
  intro b hb
  by_cases hroom : ∃ g cap, s = .slice (some ⟨g, 0, none⟩) n cap ∧ n + m ≤ cap
  · obtain ⟨g, cap, rfl, hroom⟩ := hroom
    rcases row_form hs with ⟨h, _⟩ | ⟨g', cap', cur, h, hg, hnc, hcm, hcs, _⟩
    · cases h
    · cases h
      have := run_append_room (P := P) w t ty e i ht hi g n cap cur hg a m c vs (by rw [hsize]; exact hl) hvs h1 hroom (by rw [hsize, hl, hcs, ← Nat.add_mul]; exact Nat.mul_le_mul_right _ hroom)
      rw [this] at hr
      cases hr
      exact .inl hb
  · right
    rcases row_form hs with ⟨rfl, rfl, rfl⟩ | ⟨g, cap, cur, rfl, hg, hnc, hcm, hcs, htk, hxl⟩
    · by_cases hm : m = 0
      · subst hm
        obtain ⟨v2, w2, hr2, hown2, _, hnil⟩ := run_append_own (P := P) w w.heap.size t ty e i z k bytes ht hi hz hsize hby hzs hsz (.slice none 0 0) 0 [] (World.ownsRow_nil _ _ _ _) a 0 c vs hl hvs h1 h63 hbytes (Nat.le_refl _)
        rw [hr2] at hr
        cases hr
        exact (row_base hown2).2 b hb
      · obtain ⟨v2, w2, hr2, hown2, _, hnil⟩ := run_append_own (P := P) w w.heap.size t ty e i z k bytes ht hi hz hsize hby hzs hsz (.slice none 0 0) 0 [] (World.ownsRow_nil _ _ _ _) a m c vs hl hvs h1 h63 hbytes (Nat.le_refl _)
        rw [hr2] at hr
        cases hr
        exact (row_base hown2).2 b hb
    · have hgrow : cap < n + m := by
        by_cases h : n + m ≤ cap
        · exact absurd ⟨g, cap, rfl, h⟩ hroom
        · omega
      have h63' : n + m ≤ 9223372036854775807 := by simp only [maxLen] at h63; omega
      have := run_append_grow (P := P) w t ty e i z ht hi hz ⟨g, 0, none⟩ n cap xs (by rw [hsize]; exact hxl) (hs.cells (g := g) rfl) a m c vs (by rw [hsize]; exact hl) hvs (by omega) (by omega) (by rw [hby]; exact growslice_fits (by omega) hbytes)
      rw [this] at hr
      cases hr
      cases hb
      exact Nat.le_refl _

theorem wpList_append_row {w : World} {ops : Array Oper} {rest : List Oper} {o : Oper} {a : Act} {Q : Exit → Act → World → Prop} (hgd : o.guard = none) (s x : Operand) (t : TypeId)
    (ho : o.op = .call { callee := .builtin .append, args := #[s, x], argTypes := #[t, t] }) (e : TypeId) (i : TypeInfo) (z : Value) (k bytes : Nat) (ht : P.underlying t = some (.slice e)) (hi : P.info? e = some i) (hz : i.zero = some z)
    (hsize : i.size = k) (hby : i.bytes = bytes) (hzs : z.cells.size = k) (hsz : 0 < k)
    (sv : Value) (n : Nat) (xs : List Value) (hsv : a.eval s = sv) (hs : w.ownsRow 0 e k sv n xs)
    (ad : Addr) (m c : Nat) (vs : List Value) (hx : a.eval x = .slice (some ad) m c) (hl : vs.length = m * k) (hvs : ∀ j u, vs[j]? = some u → w.cell? (ad.add j) = some u) (h1 : ∀ u ∈ vs, u.oneCell' = true)
    (h63 : n + m ≤ maxLen) (hbytes : (n + m) * bytes ≤ 140737488355328)
    (h : ∀ v' w', w'.ownsRow 0 e k v' (n + m) (xs ++ vs) → Chg sv.ownBlock.toList w w' → (∀ b, v'.ownBlock = some b → sv.ownBlock = some b ∨ w.heap.size ≤ b) → wpList P ops Q rest (a.put o.dst v') w') : wpList P ops Q (o :: rest) a w := by
  obtain ⟨v', w', hr, h2, h3, h4⟩ := run_append_row (P := P) w t o.type e i z k bytes ht hi hz hsize hby hzs hsz sv n xs hs ad m c vs hl hvs h1 h63 hbytes
  exact Lib.wpList_append_run w hgd s x t t ho sv _ hsv hx v' w' hr (h v' w' h2 h3 h4)
end
/-! ### append and clear within a row -/
section
variable {P : Program}
theorem step_append_known {ops : Array Oper} {o : Oper} {a : Act} {w : World} {K : Act → World → Prop} {Q : Exit → Act → World → Prop} {E : Prop}
    (hg : o.guard = none) (d x : Operand) (dT sT : TypeId) (hop : o.op = Op.call { callee := Callee.builtin Builtin.append, args := #[d, x], argTypes := #[dT, sT] })
    (v u : Value) (hd : a.eval d = v) (hx : a.eval x = u) {v' : Value} {w' : World} (hr : (Builtin.append_ #[dT, sT] o.type #[v, u]).run P w = .ok v' w') (hK : K (a.put o.dst v') w') :
    if Region.wanted o (yielded ops a.tmps) = true then Oper.wp P o a w K Q else E := by
  have hw : Region.wanted o (yielded ops a.tmps) = true := by simp [Region.wanted, hg]
  rw [if_pos hw]
  unfold Oper.wp execOp
  simp only [hop, resolve, invoke, builtin, Sem.run_bind, Sem.run_pure, Result.andThen_ok, List.map_toArray, List.map_cons, List.map_nil, hd, hx, hr]
  exact hK
theorem run_clear_k (w : World) (t ty elem : TypeId) (k g o n c : Nat) (z : Value) (cur : Array Value) (tt : TypeId)
    (hu : P.underlying t = some (.slice elem)) (hv : ∀ w, (zeroValue elem).run P w = .ok z w) (hzs : z.cells.size = k) (h1 : ∀ u ∈ z.cells.toList, u.oneCell' = true)
    (hg : w.heap[g]? = some (.cells cur tt (0, 0))) (hfit : o + n * k ≤ cur.size) (hn : 0 < n) :
    (Builtin.clear_ #[t] ty #[.slice (some ⟨g, o, none⟩) n c]).run P w = .ok (.tuple #[]) (w.setRow g (splice cur.toList o (Builtin.zeroCells z.cells n).toList).toArray) := by
  have hm : ∀ u ∈ (Builtin.zeroCells z.cells n).toList, u.oneCell' = true := by
    intro u hu
    simp only [Builtin.zeroCells] at hu
    simp at hu
    obtain ⟨j, hj, hu⟩ := hu
    have hpos : 0 < z.cells.size := by
      rcases Nat.eq_zero_or_pos z.cells.size with h | h
      · rw [h, Nat.mul_zero] at hj; omega
      · exact h
    have hlt := Nat.mod_lt j hpos
    rw [getElem!_pos z.cells _ hlt] at hu
    exact h1 _ (by rw [← hu]; simp)
  have hst := run_storeCells_at P g o tt (Builtin.zeroCells z.cells n).toList 0 cur w hg (by simp [size_zeroCells, hzs]; exact hfit) hm
  simp only [Nat.add_zero, List.append_assoc] at hst
  obtain ⟨n', rfl⟩ : ∃ n', n = n' + 1 := ⟨n - 1, by omega⟩
  simp [Builtin.clear_, run_underlying hu, hv, hst, splice]
end
theorem delete_cells {α : Type} (L xs zs : List α) (a b c : Nat) (hL : L.take xs.length = xs) (hab : a ≤ b) (hb : b ≤ xs.length) (hc : c = a + (xs.length - b)) (hz : c + zs.length ≤ L.length) :
    (splice (splice L a (xs.drop b)) c zs).take c = xs.take a ++ xs.drop b := by
  have hxl : xs.length ≤ L.length := by rw [← hL, List.length_take]; omega
  have hta : L.take a = xs.take a := by rw [← hL, List.take_take]; congr 1; omega
  have hl1 : (splice L a (xs.drop b)).length = L.length := length_splice _ _ _ (by simp; omega)
  rw [splice, List.take_append_of_le_length (by rw [List.length_take, hl1]; omega), List.take_take, Nat.min_self, splice_take _ _ _ (by simp; omega) _ (by simp; omega), hta]
end Go.Fol
