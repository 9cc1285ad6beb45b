/- Arguments that read, of a bulk that is bounded. -/
import Derived.Test.YtkgngcibjkkhkaaDoorMG
import Derived.Test.YtkgngcibjkkhkaaDoorHeld
import Derived.Test.YtkgngcibjkkhkaaDoorRows
namespace Go.Proofs.YtkgngcibjkkhkaaDoor
open Go Go.RowKit Go.Fol Go.ChangeShapes Go.WideShapes
set_option linter.unusedVariables false
set_option linter.unusedSimpArgs false
def RdB (P : Program) (w : World) (t : TypeId) (cs : List Value) (B : Nat) : Prop :=
  ∃ (H : Type) (enc : TypeId × Value → H) (n : Nat) (d : DataW H) (ps : List MemPlace), DataW.trod enc P w 0 (fun _ => true) true n t cs = some (d, ps) ∧ (∀ x ∈ d.weights P t, x ≤ reachBytes) ∧ Rows.uptoBulk d ≤ B
def ArgsB (P : Program) (W : World) (B : Nat) : List TypeId → List Value → Prop
  | [], [] => True
  | t :: ts, v :: vs => RdB P W t v.cells.toList B ∧ ArgsB P W B ts vs
  | _, _ => False
theorem bulk_part {H : Type} {d : DataW H} {l : List (DataW H)} (h : d ∈ l) : Rows.uptoBulk d ≤ Rows.uptoBulkAll l := by
  induction l with
  | nil => cases h
  | cons x r ih =>
    simp only [Rows.uptoBulkAll]
    cases List.mem_cons.1 h with
    | inl e => subst e; omega
    | inr e => have := ih e; omega
theorem argsB_of {H : Type} {enc : TypeId × Value → H} {P : Program} {W : World} {B : Nat} : ∀ {ts : List TypeId} {vs : List Value} {ds : List (DataW H)} {ps : List MemPlace}, DataW.TrodAll enc P W 0 (fun _ => true) true ts vs ds ps →
    (∀ x ∈ DataW.weightsEach P ts ds, x ≤ reachBytes) → Rows.uptoBulkAll ds ≤ B → ArgsB P W B ts vs
  | [], [], [], _, _, _, _ => trivial
  | t :: ts, v :: vs, d :: ds, ps, ⟨p, q, ⟨n, h1⟩, h2, e⟩, hs, hb => by
    simp only [Rows.uptoBulkAll] at hb
    refine ⟨⟨H, enc, n, d, p, h1, fun x hx => hs x (by simp only [DataW.weightsEach, List.mem_append]; exact .inl hx), by omega⟩, argsB_of h2 (fun x hx => hs x (by simp only [DataW.weightsEach, List.mem_append]; exact .inr hx)) (by omega)⟩
theorem rdb_struct {P : Program} {w : World} {t : TypeId} {fs : Array Field} {cs : List Value} {B : Nat} (ht : P.underlying t = some (.struct fs)) (h : RdB P w t cs B) :
    cs.length = P.cellsOf t ∧ ∀ (i : Nat) (f : Field), fs[i]? = some f → RdB P w f.type ((cs.drop f.offset).take (P.cellsOf f.type)) B := by
  obtain ⟨H, enc, n, d, ps, h, hs, hB⟩ := h
  obtain ⟨xs, n', rfl, hx, hl, hxs, hf⟩ := DataW.trod_struct ht h
  simp only [Prod.mk.injEq] at hx
  obtain ⟨rfl, rfl⟩ := hx
  refine ⟨hl, fun i f hif => ?_⟩
  have hi : i < xs.length := by have := (Array.getElem?_eq_some_iff.1 hif).1; omega
  have h1 := hf i f hif
  rw [List.getElem?_eq_getElem hi] at h1
  refine ⟨H, enc, n', xs[i].1, xs[i].2, h1, fun x hx => hs x ?_, ?_⟩
  · simp only [DataW.weights, ht]
    exact weightsEach_mem (j := i) (by simp [hif]) (by simp [hi]) x hx
  · simp only [Rows.uptoBulk] at hB
    have := bulk_part (d := xs[i].1) (l := xs.map (·.1)) (List.mem_map.2 ⟨_, List.getElem_mem hi, rfl⟩)
    omega
def lettersOf {H : Type} : DataW H → List UInt8
  | .lit (.string b) => b
  | _ => []
theorem bulk_letters {H : Type} : ∀ {l : List (DataW H)}, (∀ y ∈ l, y = .lit (.string (lettersOf y))) → Rows.uptoBulkAll l = bulkL (l.map lettersOf)
  | [], _ => rfl
  | y :: l, h => by
    have h1 := h y List.mem_cons_self
    have h2 := bulk_letters (l := l) (fun z hz => h z (List.mem_cons_of_mem _ hz))
    rw [h1]
    simp only [Rows.uptoBulkAll, Rows.uptoBulk, List.map_cons, bulkL, h2, lettersOf]
theorem rdb_strs {P : Program} {w : World} {t e : TypeId} {cs : List Value} {B : Nat} (ht : P.underlying t = some (.slice e)) (he : P.underlying e = some .string) (hk : P.cellsOf e = 1) (h : RdB P w t cs B) :
    ∃ (L : List (List UInt8)) (a : Option Addr) (c : Nat), cs = [.slice a L.length c] ∧ SrcV w 1 (.slice a L.length c) L.length (Fol.strs (L.map bs)) ∧ bulkL L ≤ B := by
  obtain ⟨H, enc, n, d, ps, h, hs, hB⟩ := h
  rcases DataW.trod_slice ht h with ⟨rfl, _⟩ | ⟨a, len, cap, elems, rest, n', _, rfl, hx, _, hl, hm, hlen, hel, hsp, _⟩
  · exact ⟨[], none, 0, rfl, .inl ⟨rfl, rfl, rfl⟩, Nat.zero_le _⟩
  · simp only [Prod.mk.injEq] at hx
    obtain ⟨rfl, rfl⟩ := hx
    have each : ∀ i (y : DataW H × List MemPlace), elems[i]? = some y → y.1 = .lit (.string (lettersOf y.1)) ∧ w.cell? (a.add i) = some (.string (bs (lettersOf y.1))) := by
      intro i y hy
      have hi : i < len := by have := (List.getElem?_eq_some_iff.1 hy).1; omega
      have h1 := hel i hi
      rw [hy, Option.bind_eq_some_iff, hk, Nat.mul_one] at h1
      obtain ⟨es, hes, hr⟩ := h1
      obtain ⟨m, rfl, hx, _⟩ := DataW.trod_string he hr
      have hg := (cells?_get hes).2 0 _ rfl
      rw [hx]
      exact ⟨rfl, hg⟩
    refine ⟨(elems.map (·.1)).map lettersOf, some a, cap, by simp [hlen], .inr ⟨a, cap, by simp [hlen], by simpa [hlen] using hl, hm, by simp [Fol.strs], fun j u hj => ?_⟩, ?_⟩
    · simp only [Fol.strs, List.map_map, List.getElem?_map] at hj
      cases hy : elems[j]? with
      | none => rw [hy] at hj; cases hj
      | some y =>
        rw [hy] at hj
        cases hj
        exact (each j y hy).2
    · simp only [Rows.uptoBulk] at hB
      have := bulk_letters (l := elems.map (·.1)) (fun z hz => by
        obtain ⟨y, hy, rfl⟩ := List.mem_map.1 hz
        obtain ⟨i, hi⟩ := List.getElem?_of_mem hy
        exact (each i y hi).1)
      omega
end Go.Proofs.YtkgngcibjkkhkaaDoor
