/- How the arguments of a statement read in memory, type by type, and how a statement's row follows from a walk that writes nothing old. No program in sight. -/
import Derived.WalkKit
import Derived.ProofKit
import Derived.OpenShut
import Derived.Below
import Derived.Carry
import Derived.SizedLaws
namespace Go.Fol
open Go Go.RowKit Go.ChangeShapes Go.WideShapes
set_option linter.unusedVariables false

/-- The cells read as a value of type t; every string and slice that is met takes at most the reach. -/
def Rd (P : Program) (w : World) (t : TypeId) (cs : List Value) : Prop :=
  ∃ (H : Type) (enc : TypeId × Value → H) (n : Nat) (d : DataW H) (ps : List MemPlace), DataW.trod enc P w 0 (fun _ => true) true n t cs = some (d, ps) ∧ (∀ x ∈ d.weights P t, x ≤ reachBytes)

theorem rd_int {P : Program} {w : World} {t : TypeId} {cs : List Value} {k : IntKind} (ht : P.underlying t = some (.int k)) (h : Rd P w t cs) : ∃ n, cs = [.int k n] ∧ (Lit.int k n).wf = true := by
  obtain ⟨H, enc, n, d, ps, h, _⟩ := h
  obtain ⟨m, rfl, _, hw⟩ := DataW.trod_int ht h
  exact ⟨m, rfl, hw⟩

theorem rd_bool {P : Program} {w : World} {t : TypeId} {cs : List Value} (ht : P.underlying t = some .bool) (h : Rd P w t cs) : ∃ b, cs = [.bool b] := by
  obtain ⟨H, enc, n, d, ps, h, _⟩ := h
  obtain ⟨m, rfl, _⟩ := DataW.trod_bool ht h
  exact ⟨m, rfl⟩

theorem rd_string {P : Program} {w : World} {t : TypeId} {cs : List Value} (ht : P.underlying t = some .string) (h : Rd P w t cs) : ∃ s : ByteArray, cs = [.string s] ∧ s.size ≤ 140737488351232 := by
  obtain ⟨H, enc, n, d, ps, h, hs⟩ := h
  obtain ⟨m, rfl, hx, hw⟩ := DataW.trod_string ht h
  simp only [Prod.mk.injEq] at hx
  obtain ⟨rfl, rfl⟩ := hx
  have := hs m.data.toList.length (by simp [DataW.weights])
  simp [reachBytes] at this
  exact ⟨m, rfl, by simpa using this⟩

theorem weightsAll_mem {H : Type} {P : Program} {e : TypeId} {d : DataW H} : ∀ {l : List (DataW H)}, d ∈ l → ∀ x ∈ d.weights P e, x ∈ DataW.weightsAll P e l
  | y :: l, hm, x, hx => by
    simp only [DataW.weightsAll, List.mem_append]
    rcases List.mem_cons.1 hm with rfl | hm
    · exact .inl hx
    · exact .inr (weightsAll_mem hm x hx)

/-- The elements of a slice: n of them, k cells each, from a on, each reads as type e. -/
def RowAt (P : Program) (w : World) (e : TypeId) (k : Nat) (a : Option Addr) (n : Nat) : Prop :=
  0 < n → ∃ b off, a = some ⟨b, off, none⟩ ∧ b < w.heap.size ∧ ∀ i, i < n → ∃ es : List Value, es.length = k ∧ Rd P w e es ∧ ∀ j v, es[j]? = some v → w.cell? ⟨b, off + i * k + j, none⟩ = some v

theorem cells?_get {w : World} {a : Addr} {n : Nat} {cs : List Value} (h : w.cells? 0 a n = some cs) : cs.length = n ∧ ∀ j v, cs[j]? = some v → w.cell? (a.add j) = some v := by
  simp only [World.cells?, Nat.zero_le, if_true] at h
  have hl := mapM_some_length h
  refine ⟨by simpa using hl, fun j v hj => ?_⟩
  have hjn : j < n := by have := (List.getElem?_eq_some_iff.1 hj).1; simp at hl; omega
  have := mapM_some_get h j j (by simp [hjn])
  rw [this, hj]

theorem rd_slice {P : Program} {w : World} {t e : TypeId} {cs : List Value} {k : Nat} (ht : P.underlying t = some (.slice e)) (hk : P.cellsOf e = k) (hk0 : 0 < k) (h : Rd P w t cs) :
    ∃ a len cap, cs = [.slice a len cap] ∧ (a = none → len = 0 ∧ cap = 0) ∧ len ≤ cap ∧ cap ≤ maxLen ∧ cap * P.bytesOf e ≤ 140737488351232 ∧ RowAt P w e k a len := by
  obtain ⟨H, enc, n, d, ps, h, hs⟩ := h
  rcases DataW.trod_slice ht h with ⟨rfl, _⟩ | ⟨a, len, cap, elems, rest, n', _, rfl, hx, _, hl, hm, hlen, hel, hsp, _⟩
  · exact ⟨none, 0, 0, rfl, fun _ => ⟨rfl, rfl⟩, Nat.le_refl _, Nat.zero_le _, by simp, fun h => absurd h (Nat.lt_irrefl _)⟩
  · simp only [Prod.mk.injEq] at hx
    obtain ⟨rfl, rfl⟩ := hx
    have hrl : rest.length = cap - len := (hsp rfl).1
    have hb : cap * P.bytesOf e ≤ 140737488351232 := by
      have := hs ((elems.length + rest.length) * P.bytesOf e) (by simp [DataW.weights, ht])
      rw [hlen, hrl, show len + (cap - len) = cap by omega] at this
      simpa [reachBytes] using this
    refine ⟨some a, len, cap, rfl, (fun h => nomatch h), hl, hm, hb, fun hpos => ?_⟩
    have get : ∀ i, i < len → ∃ es : List Value, es.length = k ∧ Rd P w e es ∧ ∀ j v, es[j]? = some v → w.cell? ((a.add (i * k)).add j) = some v := by
      intro i hi
      have h1 := hel i hi
      obtain ⟨y, hy⟩ : ∃ y, elems[i]? = some y := ⟨elems[i]'(by omega), List.getElem?_eq_getElem _⟩
      rw [hy, Option.bind_eq_some_iff, hk] at h1
      obtain ⟨es, hes, hr⟩ := h1
      obtain ⟨hel', hget⟩ := cells?_get hes
      refine ⟨es, hel', ⟨H, enc, n', y.1, y.2, hr, fun x hx => hs x ?_⟩, hget⟩
      simp only [DataW.weights, ht, List.mem_cons, List.mem_append]
      exact .inr (.inl (weightsAll_mem (List.mem_map.2 ⟨y, List.mem_of_getElem? hy, rfl⟩) x hx))
    obtain ⟨es, he1, _, he3⟩ := get 0 hpos
    obtain ⟨v0, hv0⟩ : ∃ v, es[0]? = some v := ⟨es[0]'(by omega), List.getElem?_eq_getElem _⟩
    have hc0 := he3 0 v0 hv0
    have hadd : (a.add (0 * k)).add 0 = a := by simp [Addr.add]
    rw [hadd] at hc0
    have hspot := World.cell?_spot hc0
    have hblt := World.block_lt_of_cell? w a hc0
    obtain ⟨b, off, spot⟩ := a
    obtain rfl : spot = none := hspot
    refine ⟨b, off, rfl, hblt, fun i hi => ?_⟩
    obtain ⟨es, h1, h2, h3⟩ := get i hi
    refine ⟨es, h1, h2, fun j v hj => ?_⟩
    have := h3 j v hj
    rwa [Addr.add_lit, Addr.add_lit] at this

theorem weightsEach_mem {H : Type} {P : Program} {t : TypeId} {d : DataW H} : ∀ {ts : List TypeId} {ds : List (DataW H)} {j : Nat}, ts[j]? = some t → ds[j]? = some d → ∀ n ∈ d.weights P t, n ∈ DataW.weightsEach P ts ds :=
  fun ht hd => DataW.weights_mem_each ht hd

theorem rd_struct {P : Program} {w : World} {t : TypeId} {fs : Array Field} {cs : List Value} (ht : P.underlying t = some (.struct fs)) (h : Rd P w t cs) :
    cs.length = P.cellsOf t ∧ ∀ (i : Nat) (f : Field), fs[i]? = some f → Rd P w f.type ((cs.drop f.offset).take (P.cellsOf f.type)) := by
  obtain ⟨H, enc, n, d, ps, h, hs⟩ := h
  obtain ⟨xs, n', rfl, hx, hl, hxs, hf⟩ := DataW.trod_struct ht h
  simp only [Prod.mk.injEq] at hx
  obtain ⟨rfl, rfl⟩ := hx
  refine ⟨hl, fun i f hif => ?_⟩
  have hi : i < xs.length := by have := (Array.getElem?_eq_some_iff.1 hif).1; omega
  have h1 := hf i f hif
  rw [List.getElem?_eq_getElem hi] at h1
  refine ⟨H, enc, n', xs[i].1, xs[i].2, h1, fun x hx => hs x ?_⟩
  simp only [DataW.weights, ht]
  exact weightsEach_mem (j := i) (by simp [hif]) (by simp [hi]) x hx

/-- An argument: it has its type's outer form, and reads. -/
def Arg (P : Program) (w : World) (t : TypeId) (v : Value) : Prop := Rd P w t v.cells.toList ∧ ∃ base, Value.okWide P w .any base t v

theorem arg_int {P : Program} {w : World} {t : TypeId} {v : Value} {k : IntKind} (ht : P.underlying t = some (.int k)) (h : Arg P w t v) : ∃ n, v = .int k n ∧ (Lit.int k n).wf = true := by
  obtain ⟨hr, base, ho⟩ := h
  obtain ⟨n, rfl⟩ := okWide_int ht ho
  obtain ⟨m, hm, hw⟩ := rd_int ht hr
  simp [Value.cells] at hm
  subst hm
  exact ⟨n, rfl, hw⟩
theorem arg_bool {P : Program} {w : World} {t : TypeId} {v : Value} (ht : P.underlying t = some .bool) (h : Arg P w t v) : ∃ b, v = .bool b := by
  obtain ⟨hr, base, ho⟩ := h
  exact okWide_bool ht ho
theorem arg_string {P : Program} {w : World} {t : TypeId} {v : Value} (ht : P.underlying t = some .string) (h : Arg P w t v) : ∃ s : ByteArray, v = .string s ∧ s.size ≤ 140737488351232 := by
  obtain ⟨hr, base, ho⟩ := h
  obtain ⟨s, rfl⟩ := okWide_string ht ho
  obtain ⟨m, hm, hw⟩ := rd_string ht hr
  simp [Value.cells] at hm
  subst hm
  exact ⟨_, rfl, hw⟩
theorem arg_slice {P : Program} {w : World} {t e : TypeId} {v : Value} {k : Nat} (ht : P.underlying t = some (.slice e)) (hk : P.cellsOf e = k) (hk0 : 0 < k) (h : Arg P w t v) :
    ∃ a len cap, v = .slice a len cap ∧ (a = none → len = 0 ∧ cap = 0) ∧ len ≤ cap ∧ cap ≤ maxLen ∧ cap * P.bytesOf e ≤ 140737488351232 ∧ RowAt P w e k a len := by
  obtain ⟨hr, base, ho⟩ := h
  obtain ⟨a, len, cap, rfl⟩ := okWide_slice ht ho
  obtain ⟨a', len', cap', hm, h1, h2, h3, h4, h5⟩ := rd_slice ht hk hk0 hr
  simp [Value.cells] at hm
  obtain ⟨rfl, rfl, rfl⟩ := hm
  exact ⟨_, _, _, rfl, h1, h2, h3, h4, h5⟩
theorem arg_struct {P : Program} {w : World} {t : TypeId} {fs : Array Field} {v : Value} (ht : P.underlying t = some (.struct fs)) (h : Arg P w t v) :
    ∃ cs : Array Value, v = .agg cs ∧ cs.size = P.cellsOf t ∧ ∀ (i : Nat) (f : Field), fs[i]? = some f → Rd P w f.type ((cs.toList.drop f.offset).take (P.cellsOf f.type)) := by
  obtain ⟨hr, base, ho⟩ := h
  obtain ⟨cs, rfl, hl⟩ := okWide_struct ht ho
  exact ⟨cs, rfl, hl, (rd_struct ht hr).2⟩

/-- The arguments read behind the call as they did, if nothing below the heap's old size has turned. -/
theorem trodAll_below {H : Type} {enc : TypeId × Value → H} {P : Program} (hl : laidOutB P = true) {W W' : World} (hb : Below W.heap.size W W') :
    ∀ {ts : List TypeId} {vs : List Value} {ds : List (DataW H)} {ps : List MemPlace}, (∀ t ∈ ts, P.readableRec t = true ∧ t < P.types.size) → DataW.TrodAll enc P W 0 (fun _ => true) true ts vs ds ps → (∀ x ∈ ps, x.block < W.heap.size) →
      DataW.TrodAll enc P W' 0 (fun b => decide (b < W.heap.size)) true ts vs ds ps
  | [], [], [], ps, _, h, _ => h
  | t :: ts, v :: vs, d :: ds, ps, hr, ⟨p, q, h1, h2, e⟩, hlt => by
    subst e
    refine ⟨p, q, ?_, trodAll_below hl hb (fun t ht => hr t (List.mem_cons_of_mem _ ht)) h2 (fun x hx => hlt x (List.mem_append_right _ hx)), rfl⟩
    exact Below.trod hl (hr t List.mem_cons_self).1 (hr t List.mem_cons_self).2 h1 hb (fun x hx => hlt x (List.mem_append_left _ hx))

def Args (P : Program) (W : World) : List TypeId → List Value → Prop
  | [], [] => True
  | t :: ts, v :: vs => Arg P W t v ∧ Args P W ts vs
  | _, _ => False

theorem args_of {H : Type} {enc : TypeId × Value → H} {P : Program} {W : World} {base : Nat} : ∀ {ts : List TypeId} {vs : List Value} {ds : List (DataW H)} {ps : List MemPlace}, DataW.TrodAll enc P W 0 (fun _ => true) true ts vs ds ps →
    (∀ x ∈ DataW.weightsEach P ts ds, x ≤ reachBytes) → (∀ (j : Nat) t v, ts[j]? = some t → vs[j]? = some v → Value.okWide P W .any base t v) → Args P W ts vs
  | [], [], [], _, _, _, _ => trivial
  | t :: ts, v :: vs, d :: ds, ps, ⟨p, q, ⟨n, h1⟩, h2, e⟩, hw, ho => by
    refine ⟨⟨⟨H, enc, n, d, p, h1, fun x hx => hw x (by simp only [DataW.weightsEach, List.mem_append]; exact .inl hx)⟩, base, ho 0 t v rfl rfl⟩, ?_⟩
    exact args_of h2 (fun x hx => hw x (by simp only [DataW.weightsEach, List.mem_append]; exact .inr hx)) (fun j t v ht hv => ho (j + 1) t v (by simpa using ht) (by simpa using hv))

/-- From a walk that answers true and writes nothing old to what a row's 'post' asks. -/
theorem law_end {H : Type} {enc : TypeId × Value → H} {P : Program} (hl : laidOutB P = true) {fn : Func} {tb : TypeId} {s : ChangeSpec} {W : World} {args : Array Value} {ds gs : List (DataW H)} {before : List MemPlace} {f : FuncId} {ts : List TypeId}
    (hts : fn.params.toList = ts) (hres : fn.resultTypes = #[tb]) (htb : P.underlying tb = some .bool) (hread : ts.all (fun t => P.readableRec t && decide (t < P.types.size)) = true) (hv0 : s.vars = [])
    (hW : DataW.Whole enc P fn.params.toList s.vars false W args.toList ds gs before) (hfn : s.fn H (ds ++ gs) = { results := [.lit (.bool true)], args := ds })
    (hc : Calls P f args W fun e W' => e = .returned (.bool true) ∧ Below W.heap.size W W') :
    Calls P f args W fun e W' => ∃ v, e = .returned v ∧ s.post enc P fn false true false false W args v W' := by
  refine hc.mono fun e W' ⟨he, hb⟩ => ?_
  subst he
  have hW0 := hW
  obtain ⟨p, q, hA, hV, hpq, hfz, hnd⟩ := hW
  rw [hv0] at hV
  obtain ⟨rfl, rfl⟩ := trodVars_none hV
  have hlt : ∀ x ∈ p, x.block < W.heap.size := fun x hx => hA.lt x hx
  have hr : ∀ t ∈ ts, P.readableRec t = true ∧ t < P.types.size := fun t ht => by have := List.all_eq_true.1 hread t ht; simpa using this
  refine ⟨_, rfl, ds, [], before, [], p, [], hW0, ?_, ?_, ?_, hb.frame _, fun h => by cases h⟩
  · rw [hfn, hres]
    exact trodAll_mk1 (shut_bool htb true)
  · rw [hfn]
    have := trodAll_below (enc := enc) hl hb (ts := ts) (by exact hr) (hts ▸ hA) hlt
    rw [hts]
    exact this
  · rw [hv0, hfn]
    exact rfl
end Go.Fol
