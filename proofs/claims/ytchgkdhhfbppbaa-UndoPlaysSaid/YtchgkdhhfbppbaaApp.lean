/- The chains of appends that lay a list anew with items put in (or taken out), one-cell elements. No program in sight. -/
import Derived.Test.YtchgkdhhfbppbaaHeld
namespace Go.Fol
open Go Go.RowKit
set_option linter.unusedVariables false
set_option linter.unusedSimpArgs false
variable {P : Program}

theorem SrcV.cap {w : World} {k : Nat} {a : Option Addr} {n c : Nat} {xs : List Value} (h : SrcV w k (.slice a n c) n xs) : n ≤ c := by
  rcases h with ⟨h, h2, _⟩ | ⟨a, c, h, h2, _⟩ <;> cases h <;> omega
theorem SrcV.pre {w : World} {a : Option Addr} {n c : Nat} {xs : List Value} (h : SrcV w 1 (.slice a n c) n xs) {q : Nat} (hq : q ≤ n) : SrcV w 1 (.slice a q c) q (xs.take q) := by
  have := h.sliced (i := 0) (j := q) (by omega) hq (by decide)
  have e : Go.sliced a 0 q c 1 = .slice a q c := by
    unfold Go.sliced
    cases a <;> simp [Addr.add]
  rw [e] at this
  simpa using this
theorem SrcV.post {w : World} {a : Option Addr} {n c : Nat} {xs : List Value} (h : SrcV w 1 (.slice a n c) n xs) {q : Nat} (hq : q ≤ n) {a2 : Option Addr} (ha : (if c = q then a else Option.map (fun x => x.add q) a) = a2) :
    SrcV w 1 (.slice a2 (n - q) (c - q)) (n - q) (xs.drop q) := by
  have := h.sliced (i := q) (j := n) hq (Nat.le_refl _) (by decide)
  rw [List.take_of_length_le (by have := h.len; rw [List.length_drop]; omega)] at this
  have e : Go.sliced a q n c 1 = .slice a2 (n - q) (c - q) := by
    unfold Go.sliced
    rw [← ha, Nat.mul_one]
  rw [e] at this
  simpa using this

/-- append(nil, s...). -/
theorem app_one (W : World) (t e : TypeId) (i : TypeInfo) (z : Value) (bytes : Nat) (ht : P.underlying t = some (.slice e)) (hi : P.info? e = some i) (hz : i.zero = some z) (hz1 : i.size = 1) (hz2 : i.bytes = bytes) (hzs : z.cells.size = 1)
    (s : Value) (n : Nat) (xs : List Value) (hs : SrcV W 1 s n xs) (h1 : ∀ u ∈ xs, u.oneCell' = true) (hm : n ≤ maxLen) (hb : n * bytes ≤ 140737488355328) :
    ∃ v' w', (∀ ty, (Builtin.append_ #[t, t] ty #[.slice none 0 0, s]).run P W = .ok v' w') ∧ w'.ownsRow 0 e 1 v' n xs ∧ Chg [] W w' ∧ (∀ b, v'.ownBlock = some b → W.heap.size ≤ b) := by
  have h := fun ty => run_append_src (P := P) W t ty e i z 1 bytes ht hi hz hz1 hz2 hzs (by decide) (.slice none 0 0) 0 [] (World.ownsRow_nil _ _ _ _) s n xs hs h1 (by omega) (by simpa using hb)
  obtain ⟨v', w', h1, h2, h3, h4⟩ := h 0
  refine ⟨v', w', fun ty => ?_, by simpa using h2, h3, fun b hb => (h4 b hb).resolve_left (fun e => by cases e)⟩
  rw [← h1]
  rfl
/-- append(own, s...) where 'own' was laid since W0. -/
theorem app_more (W0 W : World) (t e : TypeId) (i : TypeInfo) (z : Value) (bytes : Nat) (ht : P.underlying t = some (.slice e)) (hi : P.info? e = some i) (hz : i.zero = some z) (hz1 : i.size = 1) (hz2 : i.bytes = bytes) (hzs : z.cells.size = 1)
    (o : Value) (m : Nat) (ys : List Value) (ho : W.ownsRow 0 e 1 o m ys) (hc : Chg [] W0 W) (hn : ∀ b, o.ownBlock = some b → W0.heap.size ≤ b)
    (s : Value) (n : Nat) (xs : List Value) (hs : SrcV W0 1 s n xs) (h1 : ∀ u ∈ xs, u.oneCell' = true) (hm : m + n ≤ maxLen) (hb : (m + n) * bytes ≤ 140737488355328) :
    ∃ v' w', (∀ ty, (Builtin.append_ #[t, t] ty #[o, s]).run P W = .ok v' w') ∧ w'.ownsRow 0 e 1 v' (m + n) (ys ++ xs) ∧ Chg [] W0 w' ∧ (∀ b, v'.ownBlock = some b → W0.heap.size ≤ b) := by
  have h := fun ty => run_append_src (P := P) W t ty e i z 1 bytes ht hi hz hz1 hz2 hzs (by decide) o m ys ho s n xs (hs.keep hc (fun _ _ => by simp)) h1 hm hb
  obtain ⟨v', w', h1, h2, h3, h4⟩ := h 0
  refine ⟨v', w', fun ty => ?_, h2, hc.trans h3 (fun b hb hl => by simp at hb; exact absurd hl (Nat.not_lt.2 (hn b hb))), fun b hb => (h4 b hb).elim (hn b) (fun h => Nat.le_trans hc.size h)⟩
  rw [← h1]
  rfl
end Go.Fol
