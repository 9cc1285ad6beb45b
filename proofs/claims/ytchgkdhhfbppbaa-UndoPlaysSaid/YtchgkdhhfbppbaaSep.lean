/- Assertions about blocks, side by side ('Owns'): what a call has laid since a world w0, nothing older changed; a frame that any call leaves. No program in sight. -/
import Derived.Test.YtchgkdhhfbppbaaApp
import Derived.Test.YtchgkdhhfbppbaaRange
namespace Go.Fol
open Go Go.RowKit
set_option linter.unusedVariables false
set_option linter.unusedSimpArgs false

/-- What holds of some blocks. -/
structure Asrt where
  on : List Nat → World → Prop
  keep : ∀ {F : List Nat} {w w' : World}, on F w → (∀ b ∈ F, w'.heap[b]? = w.heap[b]?) → on F w'
  lt : ∀ {F : List Nat} {w : World}, on F w → ∀ b ∈ F, b < w.heap.size

/-- Assertions on blocks of S, each on blocks of its own. -/
def Sep : List Asrt → (Nat → Prop) → World → Prop
  | [], _, _ => True
  | A :: R, S, w => ∃ F, A.on F w ∧ (∀ b ∈ F, S b) ∧ Sep R (fun b => S b ∧ b ∉ F) w

theorem Sep.mono : ∀ {R : List Asrt} {S T : Nat → Prop} {w : World}, Sep R S w → (∀ b, S b → b < w.heap.size → T b) → Sep R T w
  | [], _, _, _, _, _ => trivial
  | A :: R, S, T, w, ⟨F, h, hs, hr⟩, g => ⟨F, h, fun b hb => g b (hs b hb) (A.lt h b hb), hr.mono (fun b ⟨h1, h2⟩ hl => ⟨g b h1 hl, h2⟩)⟩
theorem Sep.keep : ∀ {R : List Asrt} {S : Nat → Prop} {w w' : World}, Sep R S w → (∀ b, S b → b < w.heap.size → w'.heap[b]? = w.heap[b]?) → Sep R S w'
  | [], _, _, _, _, _ => trivial
  | A :: R, S, w, w', ⟨F, h, hs, hr⟩, g => ⟨F, A.keep h (fun b hb => g b (hs b hb) (A.lt h b hb)), hs, hr.keep (fun b hb hl => g b hb.1 hl)⟩
theorem Sep.swap {A B : Asrt} {R : List Asrt} {S : Nat → Prop} {w : World} (h : Sep (A :: B :: R) S w) : Sep (B :: A :: R) S w := by
  obtain ⟨F, hF, hs, G, hG, ht, hr⟩ := h
  exact ⟨G, hG, fun b hb => (ht b hb).1, F, hF, fun b hb => ⟨hs b hb, fun hg => (ht b hg).2 hb⟩, hr.mono (fun b ⟨⟨h1, h2⟩, h3⟩ _ => ⟨⟨h1, h3⟩, h2⟩)⟩
theorem Sep.perm {R R' : List Asrt} (p : R.Perm R') : ∀ {S : Nat → Prop} {w : World}, Sep R S w → Sep R' S w := by
  induction p with
  | nil => exact fun h => h
  | cons x _ ih => exact fun ⟨F, h, hs, hr⟩ => ⟨F, h, hs, ih hr⟩
  | swap x y l => exact fun h => h.swap
  | trans _ _ h1 h2 => exact fun h => h2 (h1 h)
theorem Sep.append {A B : List Asrt} : ∀ {S : Nat → Prop} {w : World}, Sep (A ++ B) S w ↔ ∃ F : List Nat, Sep A (fun b => S b ∧ b ∈ F) w ∧ (∀ b ∈ F, S b) ∧ Sep B (fun b => S b ∧ b ∉ F) w := by
  induction A with
  | nil =>
    intro S w
    constructor
    · intro h; exact ⟨[], trivial, fun _ h => (nomatch h), h.mono (fun b hb _ => ⟨hb, fun h => (nomatch h)⟩)⟩
    · rintro ⟨F, _, _, h⟩; exact Sep.mono (R := B) h (fun b hb _ => hb.1)
  | cons X A ih =>
    intro S w
    constructor
    · rintro ⟨F, h, hs, hr⟩
      obtain ⟨G, h1, h2, h3⟩ := ih.1 hr
      refine ⟨F ++ G, ⟨F, h, fun b hb => ⟨hs b hb, List.mem_append_left _ hb⟩, h1.mono (fun b hb _ => ⟨⟨hb.1.1, List.mem_append_right _ hb.2⟩, hb.1.2⟩)⟩, fun b hb => ?_, h3.mono (fun b hb _ => ⟨hb.1.1, fun hm => (List.mem_append.1 hm).elim hb.1.2 hb.2⟩)⟩
      rcases List.mem_append.1 hb with h | h
      · exact hs b h
      · exact (h2 b h).1
    · rintro ⟨F, ⟨G, h, hs, hr⟩, h2, h3⟩
      refine ⟨G, h, fun b hb => (hs b hb).1, ih.2 ⟨F.filter (fun b => decide (b ∉ G)), hr.mono (fun b hb _ => ⟨⟨hb.1.1, hb.2⟩, by simp [hb.1.2, hb.2]⟩), fun b hb => ?_, h3.mono (fun b hb _ => ⟨⟨hb.1, fun hm => hb.2 (hs b hm).2⟩, fun hm => hb.2 (List.mem_filter.1 hm).1⟩)⟩⟩
      have := List.mem_filter.1 hb
      exact ⟨h2 b this.1, by simpa using this.2⟩

/-- Laid since w0, side by side; nothing older has changed. -/
structure Owns (w0 w : World) (R : List Asrt) : Prop where
  chg : Chg [] w0 w
  sep : Sep R (fun b => w0.heap.size ≤ b) w

section
variable {w0 w w' : World} {A B : Asrt} {R R' : List Asrt}
theorem Owns.start (w : World) : Owns w w [] := ⟨Chg.refl _ _, trivial⟩
theorem Owns.of_chg (h : Chg [] w0 w) : Owns w0 w [] := ⟨h, trivial⟩
theorem Owns.perm (H : Owns w0 w R) (p : R.Perm R') : Owns w0 w R' := ⟨H.chg, H.sep.perm p⟩
theorem Owns.swap (H : Owns w0 w (A :: B :: R)) : Owns w0 w (B :: A :: R) := ⟨H.chg, H.sep.swap⟩
theorem perm_pick : ∀ (R : List Asrt) (i : Nat) (h : i < R.length), R.Perm (R[i] :: R.eraseIdx i)
  | [], i, h => by simp at h
  | A :: R, 0, _ => List.Perm.refl _
  | A :: R, i + 1, h => by
    simp only [List.getElem_cons_succ, List.eraseIdx_cons_succ]
    exact ((perm_pick R i (by simpa using h)).cons A).trans (List.Perm.swap ..)
theorem Owns.pick (H : Owns w0 w R) (i : Nat) (h : i < R.length := by decide) : Owns w0 w (R[i] :: R.eraseIdx i) := H.perm (perm_pick R i h)
/-- the i-th, and the others. -/
def takeAt : List Asrt → Nat → Option (Asrt × List Asrt)
  | [], _ => none
  | A :: R, 0 => some (A, R)
  | A :: R, i + 1 => match takeAt R i with
    | some (B, R') => some (B, A :: R')
    | none => none
/-- laid out anew: by the places among those that are left. -/
def ordL : List Nat → List Asrt → List Asrt
  | [], R => R
  | i :: is, R => match takeAt R i with
    | some (B, R') => B :: ordL is R'
    | none => R
theorem takeAt_perm : ∀ (R : List Asrt) (i : Nat) (B : Asrt) (R' : List Asrt), takeAt R i = some (B, R') → R.Perm (B :: R')
  | [], i, B, R', h => by simp [takeAt] at h
  | A :: R, 0, B, R', h => by simp [takeAt] at h; obtain ⟨rfl, rfl⟩ := h; exact List.Perm.refl _
  | A :: R, i + 1, B, R', h => by
    simp only [takeAt] at h
    split at h
    · rename_i B' R'' e
      cases h
      exact ((takeAt_perm R i _ _ e).cons A).trans (List.Perm.swap ..)
    · cases h
theorem ordL_perm : ∀ (is : List Nat) (R : List Asrt), R.Perm (ordL is R)
  | [], R => List.Perm.refl _
  | i :: is, R => by
    simp only [ordL]
    split
    · rename_i B R' e
      exact (takeAt_perm R i B R' e).trans ((ordL_perm is R').cons B)
    · exact List.Perm.refl _
theorem Owns.ord (H : Owns w0 w R) (is : List Nat) : Owns w0 w (ordL is R) := H.perm (ordL_perm is R)
theorem Owns.drop (H : Owns w0 w (A :: R)) : Owns w0 w R := by
  obtain ⟨hc, F, _, _, hr⟩ := H
  exact ⟨hc, hr.mono (fun b hb _ => hb.1)⟩
theorem Owns.left : ∀ {R R' : List Asrt} {w : World}, Owns w0 w (R ++ R') → Owns w0 w R := by
  intro R R' w H
  obtain ⟨F, h1, h2, h3⟩ := Sep.append.1 H.sep
  exact ⟨H.chg, h1.mono (fun b hb _ => hb.1)⟩
theorem Owns.sub (H : Owns w0 w R) (p : ∃ T, R.Perm (R' ++ T)) : Owns w0 w R' := by
  obtain ⟨T, p⟩ := p
  exact (H.perm p).left
theorem Owns.mem (H : Owns w0 w R) (h : A ∈ R) : Owns w0 w [A] := by
  obtain ⟨s, t, rfl⟩ := List.append_of_mem h
  exact (H.perm (List.perm_middle)).left (R := [A]) (R' := s ++ t)
theorem Owns.quiet (H : Owns w0 w R) (g : Chg [] w w') : Owns w0 w' R := ⟨H.chg.nil_trans g, H.sep.keep (fun b _ hl => g.block b hl (by simp))⟩
theorem Owns.alloc0 (H : Owns w0 w R) (o : Obj) : Owns w0 (w.alloc o) R := H.quiet ((Chg.refl [] w).alloc o)
theorem Owns.drew (H : Owns w0 w R) : Owns w0 w.drew R := H.quiet (Chg.refl [] w).drew
theorem Owns.drewN (H : Owns w0 w R) (n : Nat) : Owns w0 (w.drewN n) R := H.quiet ((Chg.refl [] w).drewN n)
theorem Owns.below (H : Owns w0 w R) : Below w0.heap.size w0 w := H.chg.below (Nat.le_refl _) (by simp)
/-- The step: a call that changes A's blocks alone, and lays new ones. -/
theorem Owns.step {Bs : List Asrt} (H : Owns w0 w (A :: R)) (h : ∀ F, A.on F w → (∀ b ∈ F, w0.heap.size ≤ b) → Chg F w w' ∧ Sep Bs (fun b => b ∈ F ∨ w.heap.size ≤ b) w') : Owns w0 w' (Bs ++ R) := by
  obtain ⟨hc, F, hF, hs, hr⟩ := H
  obtain ⟨hg, hB⟩ := h F hF hs
  refine ⟨hc.trans hg (fun b hb hl => absurd hl (Nat.not_lt.2 (hs b hb))), ?_⟩
  have hr' := (hr.mono (T := fun b => (w0.heap.size ≤ b ∧ b ∉ F) ∧ b < w.heap.size) (fun b hb hl => ⟨hb, hl⟩)).keep (w' := w') (fun b hb hl => hg.block b hl hb.1.2)
  have hz := hc.size
  refine Sep.append.2 ⟨F ++ (List.range w'.heap.size).filter (fun b => decide (w.heap.size ≤ b)), hB.mono (fun b hb hl => ?_), fun b hb => ?_, hr'.mono (fun b hb hl => ⟨hb.1.1, fun hm => ?_⟩)⟩
  · rcases hb with h1 | h1
    · exact ⟨hs b h1, List.mem_append_left _ h1⟩
    · exact ⟨Nat.le_trans hz h1, List.mem_append_right _ (List.mem_filter.2 ⟨List.mem_range.2 hl, by simpa using h1⟩)⟩
  · rcases List.mem_append.1 hb with h1 | h1
    · exact hs b h1
    · have := (List.mem_filter.1 h1).2; simp at this; omega
  · rcases List.mem_append.1 hm with h1 | h1
    · exact hb.1.2 h1
    · have := (List.mem_filter.1 h1).2; simp at this; omega
theorem Owns.step1 (H : Owns w0 w (A :: R)) (h : ∀ F, A.on F w → (∀ b ∈ F, w0.heap.size ≤ b) → Chg F w w' ∧ ∃ F', B.on F' w' ∧ ∀ b ∈ F', b ∈ F ∨ w.heap.size ≤ b) : Owns w0 w' (B :: R) :=
  Owns.step (Bs := [B]) H (fun F hF hs => by obtain ⟨h1, F', h2, h3⟩ := h F hF hs; exact ⟨h1, F', h2, h3, trivial⟩)
/-- What a call lays anew. -/
theorem Owns.new (H : Owns w0 w R) (hg : Chg [] w w') (h : ∃ F', B.on F' w' ∧ ∀ b ∈ F', w.heap.size ≤ b) : Owns w0 w' (B :: R) := by
  obtain ⟨F', h1, h2⟩ := h
  have hz := H.chg.size
  refine ⟨H.chg.nil_trans hg, F', h1, fun b hb => Nat.le_trans hz (h2 b hb), ?_⟩
  refine ((H.sep.mono (T := fun b => w0.heap.size ≤ b ∧ b < w.heap.size) (fun b hb hl => ⟨hb, hl⟩)).keep (w' := w') (fun b hb hl => hg.block b hl (by simp))).mono (fun b hb hl => ⟨hb.1, fun hm => ?_⟩)
  have := h2 b hm
  omega
theorem Owns.head (H : Owns w0 w (A :: R)) : ∃ F, A.on F w ∧ ∀ b ∈ F, w0.heap.size ≤ b := by
  obtain ⟨_, F, hF, hs, _⟩ := H
  exact ⟨F, hF, hs⟩
/-- The head's blocks turned otherwise: the rest still stands. -/
theorem Owns.rest (H : Owns w0 w (A :: R)) {F : List Nat} (h : ∀ G, A.on G w → G = F) (g : Chg F w w') : Owns w0 w' R :=
  Owns.step (Bs := []) H (fun G hG hs => by obtain rfl := h G hG; exact ⟨g, trivial⟩)
end

theorem cell_alloc {w : World} {a : Addr} {v : Value} (h : w.cell? a = some v) (o : Obj) : (w.alloc o).cell? a = some v := ((Chg.refl [] w).alloc o).cell h (by simp)
/-! ### kinds of assertions -/
/-- One block, whole. -/
def Asrt.obj (b : Nat) (o : Obj) : Asrt where
  on F w := F = [b] ∧ w.heap[b]? = some o
  keep := by rintro F w w' ⟨rfl, h⟩ g; exact ⟨rfl, (g b (by simp)).trans h⟩
  lt := by rintro F w ⟨rfl, h⟩ c hc; simp at hc; subst hc; exact heap_lt h
/-- A row that a slice value owns. -/
def Asrt.row (e : TypeId) (k : Nat) (v : Value) (n : Nat) (xs : List Value) : Asrt where
  on F w := F = v.ownBlock.toList ∧ w.ownsRow 0 e k v n xs
  keep := by rintro F w w' ⟨rfl, h⟩ g; exact ⟨rfl, keepB_row h (S := v.ownBlock.toList) g (fun b hb => by simp [hb])⟩
  lt := by rintro F w ⟨rfl, h⟩ c hc; simp at hc; exact row_lt h hc
/-- A vector: its block, its row. -/
def Asrt.vec (vt e : TypeId) (k p n : Nat) (xs : List Value) : Asrt where
  on F w := ∃ sv, F = vfoot p sv ∧ VecAt w vt e k p sv n xs
  keep := by rintro F w w' ⟨sv, rfl, h⟩ g; exact ⟨sv, rfl, keepB_vec h (S := vfoot p sv) g (fun _ h => h)⟩
  lt := by rintro F w ⟨sv, rfl, h⟩ c hc; exact h.foot_lt c hc
/-- A slice that can be read. -/
def Asrt.src (k : Nat) (v : Value) (n : Nat) (xs : List Value) : Asrt where
  on F w := ((n = 0 ∧ F = []) ∨ (0 < n ∧ 0 < k ∧ F = v.ownBlock.toList)) ∧ SrcV w k v n xs
  keep := by
    rintro F w w' ⟨hF, h⟩ g
    refine ⟨hF, ?_⟩
    rcases h with h | ⟨a, c, rfl, h1, h2, h3, h4⟩
    · exact .inl h
    · refine .inr ⟨a, c, rfl, h1, h2, h3, fun j u hj => ?_⟩
      rcases hF with ⟨rfl, rfl⟩ | ⟨hn, hk, rfl⟩
      · have : xs = [] := List.eq_nil_of_length_eq_zero (by simpa using h3)
        rw [this] at hj
        simp at hj
      · have hb : (a.add j).block = a.block := by unfold Addr.add; split <;> rfl
        exact (World.cell?_of_block (w := w) (g _ (by rw [hb]; simp [Value.ownBlock]))).trans (h4 j u hj)
  lt := by
    rintro F w ⟨hF, h⟩ c hc
    rcases hF with ⟨rfl, rfl⟩ | ⟨hn, hk, rfl⟩
    · cases hc
    · exact h.lt hn hk (by simpa using hc)
/-- Blocks that are as they were in W. -/
def Asrt.same (W : World) (G : List Nat) : Asrt where
  on F w := F = G ∧ ∀ b ∈ G, b < w.heap.size ∧ w.heap[b]? = W.heap[b]?
  keep := by
    rintro F w w' ⟨rfl, h⟩ g
    refine ⟨rfl, fun b hb => ?_⟩
    have h1 := h b hb
    have h2 := g b hb
    refine ⟨?_, h2.trans h1.2⟩
    rw [Array.getElem?_eq_getElem h1.1] at h2
    exact (Array.getElem?_eq_some_iff.1 h2).1
  lt := by rintro F w ⟨rfl, h⟩ c hc; exact (h c hc).1
/-- A fact. -/
def Asrt.pure (p : Prop) : Asrt where
  on F w := F = [] ∧ p
  keep := by rintro F w w' ⟨rfl, h⟩ g; exact ⟨rfl, h⟩
  lt := by rintro F w ⟨rfl, h⟩ c hc; cases hc
/-- For some x. -/
def Asrt.ex {α : Type} (A : α → Asrt) : Asrt where
  on F w := ∃ x, (A x).on F w
  keep := by rintro F w w' ⟨x, h⟩ g; exact ⟨x, (A x).keep h g⟩
  lt := by rintro F w ⟨x, h⟩ c hc; exact (A x).lt h c hc
/-- Several, as one. -/
def Asrt.all (L : List Asrt) : Asrt where
  on F w := Sep L (fun b => b ∈ F) w ∧ ∀ b ∈ F, b < w.heap.size
  keep := by
    rintro F w w' ⟨h, hl⟩ g
    refine ⟨h.keep (fun b hb _ => g b hb), fun b hb => ?_⟩
    have h2 := g b hb
    rw [Array.getElem?_eq_getElem (hl b hb)] at h2
    exact (Array.getElem?_eq_some_iff.1 h2).1
  lt := by rintro F w ⟨h, hl⟩ c hc; exact hl c hc

section
variable {w0 w w' : World} {A B : Asrt} {R R' : List Asrt}
theorem Owns.pureI {p : Prop} (H : Owns w0 w R) (hp : p) : Owns w0 w (Asrt.pure p :: R) := H.new (Chg.refl _ _) ⟨[], ⟨rfl, hp⟩, by simp⟩
theorem Owns.pureE {p : Prop} (H : Owns w0 w (Asrt.pure p :: R)) : p ∧ Owns w0 w R := by
  refine ⟨?_, H.drop⟩
  obtain ⟨F, h, _⟩ := H.head
  exact h.2
theorem Owns.exI {α : Type} {A : α → Asrt} (x : α) (H : Owns w0 w (A x :: R)) : Owns w0 w (Asrt.ex A :: R) := by
  obtain ⟨hc, F, hF, hs, hr⟩ := H
  exact ⟨hc, F, ⟨x, hF⟩, hs, hr⟩
theorem Owns.exE {α : Type} {A : α → Asrt} (H : Owns w0 w (Asrt.ex A :: R)) : ∃ x, Owns w0 w (A x :: R) := by
  obtain ⟨hc, F, ⟨x, hF⟩, hs, hr⟩ := H
  exact ⟨x, hc, F, hF, hs, hr⟩
theorem Owns.allI {L : List Asrt} (H : Owns w0 w (L ++ R)) : Owns w0 w (Asrt.all L :: R) := by
  obtain ⟨hc, hs⟩ := H
  obtain ⟨F, h1, h2, h3⟩ := Sep.append.1 hs
  refine ⟨hc, F.filter (fun b => decide (b < w.heap.size)), ⟨h1.mono (fun b hb hl => by simp [hb.2, hl]), fun b hb => by simpa using (List.mem_filter.1 hb).2⟩, fun b hb => h2 b (List.mem_filter.1 hb).1, h3.mono (fun b hb hl => ⟨hb.1, fun hm => hb.2 (List.mem_filter.1 hm).1⟩)⟩
theorem Owns.allE {L : List Asrt} (H : Owns w0 w (Asrt.all L :: R)) : Owns w0 w (L ++ R) := by
  obtain ⟨hc, F, ⟨h1, hl⟩, hs, hr⟩ := H
  exact ⟨hc, Sep.append.2 ⟨F, h1.mono (fun b hb _ => ⟨hs b hb, hb⟩), hs, hr⟩⟩

/-! one block -/
theorem Owns.alloc (H : Owns w0 w R) (cs : Array Value) (t : TypeId) : Owns w0 (w.alloc (.cells cs t)) (Asrt.obj w.heap.size (.cells cs t (0, 0)) :: R) :=
  H.new ((Chg.refl [] w).alloc _) ⟨_, ⟨rfl, heap_alloc_new _ _⟩, by simp⟩
theorem Owns.allocO (H : Owns w0 w R) (o : Obj) : Owns w0 (w.alloc o) (Asrt.obj w.heap.size o :: R) :=
  H.new ((Chg.refl [] w).alloc _) ⟨_, ⟨rfl, heap_alloc_new _ _⟩, by simp⟩
theorem Owns.obj {b : Nat} {o : Obj} (H : Owns w0 w (Asrt.obj b o :: R)) : w.heap[b]? = some o := by
  obtain ⟨F, ⟨_, h⟩, _⟩ := H.head
  exact h
theorem Owns.objs {b : Nat} {o : Obj} (H : Owns w0 w R) (h : Asrt.obj b o ∈ R) : w.heap[b]? = some o := (H.mem h).obj
theorem Owns.cell {b : Nat} {cs : Array Value} {t : TypeId} {f : Nat × Nat} (H : Owns w0 w (Asrt.obj b (.cells cs t f) :: R)) {j : Nat} {v : Value} (hv : cs[j]? = some v) : w.cell? ⟨b, j, none⟩ = some v := cell_of_heap H.obj hv
theorem Owns.frozen {b : Nat} {cs : Array Value} {t : TypeId} (H : Owns w0 w (Asrt.obj b (.cells cs t (0, 0)) :: R)) (j : Nat) : w.frozen? ⟨b, j, none⟩ = false := frozen_of_heap H.obj j
theorem Owns.set {b : Nat} {cs : Array Value} {t : TypeId} {f : Nat × Nat} (H : Owns w0 w (Asrt.obj b (.cells cs t f) :: R)) (j : Nat) (u : Value) :
    Owns w0 (w.setCell ⟨b, j, none⟩ u) (Asrt.obj b (.cells (cs.setIfInBounds j u) t f) :: R) :=
  H.step1 (fun F ⟨e, h⟩ _ => by subst e; exact ⟨(Chg.refl _ w).setCell (fun _ => by simp) u, _, ⟨rfl, heap_set_same h u⟩, fun b hb => .inl hb⟩)
theorem Owns.putObj {b : Nat} {o : Obj} (H : Owns w0 w (Asrt.obj b o :: R)) (o' : Obj) : Owns w0 (w.putObj b o') (Asrt.obj b o' :: R) :=
  H.step1 (fun F ⟨e, h⟩ _ => by subst e; exact ⟨chg_putObj w b o', _, ⟨rfl, World.putObj_heap_same (heap_lt h)⟩, fun b hb => .inl hb⟩)

/-! a row -/
section
variable {e : TypeId} {k n : Nat} {v : Value} {xs : List Value}
theorem Owns.row (H : Owns w0 w (Asrt.row e k v n xs :: R)) : w.ownsRow 0 e k v n xs := by
  obtain ⟨F, ⟨_, h⟩, _⟩ := H.head
  exact h
theorem Owns.rowNil (H : Owns w0 w R) (e : TypeId) (k : Nat) : Owns w0 w (Asrt.row e k (.slice none 0 0) 0 [] :: R) :=
  H.new (Chg.refl _ _) ⟨[], ⟨rfl, World.ownsRow_nil _ _ _ _⟩, by simp⟩
/-- A block just laid, as a row. -/
theorem Owns.rowOf {b : Nat} {cs : Array Value} (H : Owns w0 w (Asrt.obj b (.cells cs e (0, 0)) :: R)) (n c : Nat) (hn : n ≤ c) (hc : c ≤ maxLen) (hs : cs.size = c * k) : Owns w0 w (Asrt.row e k (.slice (some ⟨b, 0, none⟩) n c) n (cs.toList.take (n * k)) :: R) :=
  H.step1 (fun F ⟨e1, h⟩ _ => by
    subst e1
    refine ⟨Chg.refl _ _, [b], ⟨rfl, ?_, .inr ⟨b, c, cs, rfl, Nat.zero_le _, h, hn, hc, hs, rfl⟩⟩, fun b hb => .inl hb⟩
    rw [List.length_take, Array.length_toList, hs]
    exact Nat.min_eq_left (Nat.mul_le_mul_right k hn))
theorem Owns.rowSet {q : Nat} (H : Owns w0 w (Asrt.row e 1 v n xs :: R)) (hq : q < n) (x : Value) :
    ∃ g cap y, v = .slice (some ⟨g, 0, none⟩) n cap ∧ n ≤ cap ∧ w.cell? ⟨g, q, none⟩ = some y ∧ w.frozen? ⟨g, q, none⟩ = false ∧ Owns w0 (w.setCell ⟨g, q, none⟩ x) (Asrt.row e 1 v n (xs.set q x) :: R) := by
  have hrow := H.row
  rcases row_form hrow with ⟨_, rfl, _⟩ | ⟨g, cap, cur, rfl, hg, hnc, hm, hcs, htk, hxl⟩
  · omega
  refine ⟨g, cap, xs[q]'(by omega), rfl, hnc, ?_, frozen_of_heap hg q, H.step1 (fun F ⟨e1, h⟩ _ => ?_)⟩
  · have := hrow.cells (g := g) rfl q _ (List.getElem?_eq_getElem (by omega))
    rwa [Addr.add_lit, Nat.zero_add] at this
  · subst e1
    refine ⟨(Chg.refl _ w).setCell (fun _ => by simp [Value.ownBlock]) x, _, ⟨rfl, by simpa using hxl, .inr ⟨g, cap, _, rfl, Nat.zero_le _, heap_set_same hg x, hnc, hm, by simpa using hcs, ?_⟩⟩, fun b hb => .inl hb⟩
    simp only [Array.toList_setIfInBounds]
    rw [← htk, List.take_set]
end

/-! sources -/
/-- A slice that can be read wherever R stands. -/
def Reads (w0 : World) (R : List Asrt) (k : Nat) (v : Value) (n : Nat) (xs : List Value) : Prop := ∀ w, Owns w0 w R → SrcV w k v n xs
theorem Reads.old {k n : Nat} {v : Value} {xs : List Value} (h : SrcV w0 k v n xs) : Reads w0 R k v n xs := fun w H => h.keep H.chg (by simp)
theorem Reads.row {e : TypeId} {k n : Nat} {v : Value} {xs : List Value} (h : Asrt.row e k v n xs ∈ R) : Reads w0 R k v n xs := fun w H => SrcV.of_row (H.mem h).row
theorem Reads.sliced {k n c : Nat} {a : Option Addr} {xs : List Value} (h : Reads w0 R k (.slice a n c) n xs) {i j : Nat} (hij : i ≤ j) (hj : j ≤ n) (hk : 0 < k) :
    Reads w0 R k (Go.sliced a i j c k) (j - i) ((xs.drop (i * k)).take ((j - i) * k)) := fun w H => (h w H).sliced hij hj hk
theorem Reads.nil {k : Nat} : Reads w0 R k (.slice none 0 0) 0 [] := fun w H => .inl ⟨rfl, rfl, rfl⟩
theorem Reads.pre {n c : Nat} {a : Option Addr} {xs : List Value} (h : Reads w0 R 1 (.slice a n c) n xs) {q : Nat} (hq : q ≤ n) : Reads w0 R 1 (.slice a q c) q (xs.take q) := fun w H => (h w H).pre hq
theorem Reads.post {n c : Nat} {a : Option Addr} {xs : List Value} (h : Reads w0 R 1 (.slice a n c) n xs) {q : Nat} (hq : q ≤ n) {a2 : Option Addr} (ha : (if c = q then a else Option.map (fun x => x.add q) a) = a2) :
    Reads w0 R 1 (.slice a2 (n - q) (c - q)) (n - q) (xs.drop q) := fun w H => (h w H).post hq ha
theorem Reads.mid {n c : Nat} {a : Option Addr} {xs : List Value} (h : Reads w0 R 1 (.slice a n c) n xs) {q r : Nat} (hq : q + r ≤ n) (hc : ¬ c = q) :
    Reads w0 R 1 (.slice (Option.map (fun x => x.add q) a) r (c - q)) r ((xs.drop q).take r) := fun w H => by
  have := (h w H).sliced (i := q) (j := q + r) (by omega) hq (by decide)
  have e : Go.sliced a q (q + r) c 1 = .slice (Option.map (fun x => x.add q) a) r (c - q) := by
    unfold Go.sliced
    rw [if_neg hc, Nat.mul_one, Nat.add_sub_cancel_left]
  rw [e, Nat.add_sub_cancel_left] at this
  simpa using this
/-- A slice literal just laid. -/
theorem Reads.obj {k n c b : Nat} {cs : Array Value} {t : TypeId} {f : Nat × Nat} (h : Asrt.obj b (.cells cs t f) ∈ R) (hn : n ≤ c) (hc : c ≤ maxLen) (hl : n * k ≤ cs.size) : Reads w0 R k (.slice (some ⟨b, 0, none⟩) n c) n (cs.toList.take (n * k)) := fun w H => by
  refine .inr ⟨_, _, rfl, hn, hc, by rw [List.length_take, Array.length_toList]; exact Nat.min_eq_left hl, fun j u hj => ?_⟩
  rw [Addr.add_lit, Nat.zero_add]
  refine cell_of_heap (H.objs h) ?_
  rw [List.getElem?_take] at hj
  split at hj
  · simpa using hj
  · cases hj
theorem Reads.mono {k n : Nat} {v : Value} {xs : List Value} (h : Reads w0 R k v n xs) (p : ∃ T, R'.Perm (R ++ T)) : Reads w0 R' k v n xs := fun w H => h w (H.sub p)
theorem Reads.cons {k n : Nat} {v : Value} {xs : List Value} (h : Reads w0 R k v n xs) : Reads w0 (A :: R) k v n xs := fun w H => h w H.drop
/-- Such a slice lies off the blocks of what stands beside R. -/
theorem Reads.off {k n : Nat} {v : Value} {xs : List Value} (h : Reads w0 R k v n xs) (H : Owns w0 w (A :: R)) (hn : 0 < n) (hk : 0 < k) : ∀ F, A.on F w → (∀ G, A.on G w → G = F) → ∀ b, v.ownBlock = some b → b ∉ F := by
  intro F hF hu b hb hm
  have hlt := A.lt hF b hm
  have H2 : Owns w0 (w.putObj b (.cells #[] 0)) R := H.rest hu ((chg_putObj w b _).mono (fun c hc _ => by simp at hc; subst hc; exact hm))
  obtain ⟨b', off, c, rfl, _, _, hc⟩ := (h _ H2).cells hn hk
  cases hb
  have hl : 0 < xs.length := by rw [(h _ H2).len]; exact Nat.mul_pos hn hk
  have := hc 0 _ (List.getElem?_eq_getElem hl)
  simp only [World.cell?, World.putObj_heap_same hlt] at this
  simp at this
end
section
variable {w0 w w' : World} {A B : Asrt} {R R' : List Asrt}
theorem Reads.src {k n : Nat} {v : Value} {xs : List Value} (h : Asrt.src k v n xs ∈ R) : Reads w0 R k v n xs := fun w H => by
  obtain ⟨F, ⟨_, h⟩, _⟩ := (H.mem h).head
  exact h
theorem Owns.src {k n : Nat} {v : Value} {xs : List Value} (H : Owns w0 w (Asrt.src k v n xs :: R)) : SrcV w k v n xs := Reads.src (w0 := w0) List.mem_cons_self w H
/-- A source out of a source, or out of a row. -/
theorem Owns.srcSub {k n n' : Nat} {v v' : Value} {xs xs' : List Value} (H : Owns w0 w (Asrt.src k v n xs :: R)) (hb : v'.ownBlock = v.ownBlock) (hn : n' ≤ n) (h : SrcV w k v' n' xs') : Owns w0 w (Asrt.src k v' n' xs' :: R) :=
  H.step1 (fun F ⟨hF, _⟩ _ => by
    refine ⟨Chg.refl _ _, if n' = 0 then [] else F, ⟨?_, h⟩, fun b hb => .inl (by split at hb; cases hb; exact hb)⟩
    by_cases h0 : n' = 0
    · exact .inl ⟨h0, by simp [h0]⟩
    · rcases hF with ⟨h1, _⟩ | ⟨h1, h2, rfl⟩
      · omega
      · exact .inr ⟨by omega, h2, by simp [h0, hb]⟩)
theorem Owns.srcOfRow {e : TypeId} {k n : Nat} {v : Value} {xs : List Value} (H : Owns w0 w (Asrt.row e k v n xs :: R)) (hk : 0 < k) : Owns w0 w (Asrt.src k v n xs :: R) :=
  H.step1 (fun F ⟨hF, h⟩ _ => by
    subst hF
    by_cases h0 : n = 0
    · exact ⟨Chg.refl _ _, [], ⟨.inl ⟨h0, rfl⟩, SrcV.of_row h⟩, fun b hb => by cases hb⟩
    · exact ⟨Chg.refl _ _, _, ⟨.inr ⟨by omega, hk, rfl⟩, SrcV.of_row h⟩, fun b hb => .inl hb⟩)
theorem Owns.srcNil {k : Nat} (H : Owns w0 w R) : Owns w0 w (Asrt.src k (.slice none 0 0) 0 [] :: R) :=
  H.new (Chg.refl _ _) ⟨[], ⟨.inl ⟨rfl, rfl⟩, .inl ⟨rfl, rfl, rfl⟩⟩, by simp⟩
theorem Owns.srcPost {n c : Nat} {a : Option Addr} {xs : List Value} (H : Owns w0 w (Asrt.src 1 (.slice a n c) n xs :: R)) {q : Nat} (hq : q ≤ n) {a2 : Option Addr} (ha : (if c = q then a else Option.map (fun x => x.add q) a) = a2) :
    Owns w0 w (Asrt.src 1 (.slice a2 (n - q) (c - q)) (n - q) (xs.drop q) :: R) := by
  refine H.srcSub ?_ (by omega) (H.src.post hq ha)
  rw [← ha]
  split
  · cases a <;> rfl
  · cases a with
    | none => rfl
    | some a => simp only [Option.map_some, Value.ownBlock]; unfold Addr.add; split <;> rfl
end
/-! ### how calls end -/
/-- It returns v; R stands. -/
def Ret (v : Value) (w0 : World) (R : List Asrt) (e : Ending) (w' : World) : Prop := e = .returned v ∧ Owns w0 w' R
/-- It returns some v x; R x stands. -/
def RetX {α : Type} (v : α → Value) (w0 : World) (R : α → List Asrt) (e : Ending) (w' : World) : Prop := ∃ x, e = .returned (v x) ∧ Owns w0 w' (R x)

section
variable {w0 w w' : World} {R : List Asrt} {vt e : TypeId} {k p n : Nat} {xs : List Value}
theorem Owns.vec (H : Owns w0 w (Asrt.vec vt e k p n xs :: R)) : ∃ sv, VecAt w vt e k p sv n xs ∧ ∀ F, (Asrt.vec vt e k p n xs).on F w → F = vfoot p sv := by
  obtain ⟨F, ⟨sv, rfl, h⟩, _⟩ := H.head
  refine ⟨sv, h, ?_⟩
  rintro G ⟨sv', rfl, h'⟩
  have h1 := h.cell
  rw [h'.cell] at h1
  cases h1
  rfl
theorem Owns.vecOff (H : Owns w0 w (Asrt.vec vt e k p n xs :: R)) {sv : Value} (hv : VecAt w vt e k p sv n xs) {k' m : Nat} {v : Value} {ys : List Value} (h : Reads w0 R k' v m ys) (hk : 0 < k') :
    0 < m → ∀ b, v.ownBlock = some b → sv.ownBlock ≠ some b := by
  intro hm b hb hs
  obtain ⟨sv', hv', hu⟩ := H.vec
  have h1 := hv.cell
  rw [hv'.cell] at h1
  cases h1
  exact h.off H hm hk _ ⟨_, rfl, hv⟩ hu b hb (by simp [vfoot, hs])
theorem Owns.vecBack {n' : Nat} {ys : List Value} {sv r : Value} {en : Ending} (H : Owns w0 w (Asrt.vec vt e k p n xs :: R)) (hv : VecAt w vt e k p sv n xs) (h : VecBack w vt e k p n' ys sv r en w') : Ret r w0 (Asrt.vec vt e k p n' ys :: R) en w' := by
  obtain ⟨sv', rfl, hv', hm⟩ := h
  refine ⟨rfl, H.step1 (fun F hF _ => ?_)⟩
  obtain ⟨sv2, hv2, hu⟩ := H.vec
  have h1 := hv.cell
  rw [hv2.cell] at h1
  cases h1
  obtain rfl := hu F hF
  refine ⟨hm.chg, _, ⟨sv', rfl, hv'⟩, fun b hb => ?_⟩
  simp only [vfoot, List.mem_cons, Option.mem_toList] at hb ⊢
  rcases hb with rfl | hb
  · exact .inl (.inl rfl)
  · exact (hm.new b hb).elim (fun h => .inl (.inr h)) .inr
theorem splice_take_ge {α : Type} (L cs : List α) (off m : Nat) (h : off + cs.length ≤ m) (hl : off ≤ L.length) : (splice L off cs).take m = splice (L.take m) off cs := by
  simp only [splice]
  rw [List.take_append, List.take_append, List.take_take, List.take_take, List.drop_take, Nat.min_eq_right (by omega), Nat.min_eq_left (by omega), List.take_of_length_le (l := cs) (by rw [List.length_take]; omega), List.length_take, Nat.min_eq_left hl]
  congr 2
  congr 1
  omega
/-- Cells of the vector's row, written over. -/
theorem Owns.vecSplice {g cap off : Nat} {cur : Array Value} {cs : List Value} (H : Owns w0 w (Asrt.vec vt e k p n xs :: R)) (hv : VecAt w vt e k p (.slice (some ⟨g, 0, none⟩) n cap) n xs)
    (hg : w.heap[g]? = some (.cells cur e (0, 0))) (hfit : off + cs.length ≤ n * k) : Owns w0 (w.setRow g (splice cur.toList off cs).toArray) (Asrt.vec vt e k p n (splice xs off cs) :: R) := by
  have hpg : p ≠ g := fun e => hv.ne (by rw [e]; rfl)
  rcases row_form hv.row with ⟨h, _⟩ | ⟨g', cap', cur', h, hg', hnc, hcm, hcs, htk, hxl⟩
  · cases h
  cases h
  rw [hg] at hg'
  cases hg'
  refine H.step1 (fun F hF _ => ?_)
  obtain ⟨sv2, hv2, hu⟩ := H.vec
  have h1 := hv.cell
  rw [hv2.cell] at h1
  cases h1
  obtain rfl := hu F hF
  have hm := Nat.mul_le_mul_right k hnc
  have hcl : cur.toList.length = cap * k := by simpa using hcs
  refine ⟨(Chg.refl _ w).setRow (fun _ => by simp [vfoot, Value.ownBlock]) _, _, ⟨_, rfl, ⟨(setRow_other w g p _ hpg).trans hv.obj, ?_, hv.ne⟩⟩, fun b hb => .inl hb⟩
  refine row_setRow (c0 := cur) hg hnc hcm (by rw [length_splice _ _ _ (by omega), hcl]) ?_
  rw [splice_take_ge _ _ _ _ (by omega) (by omega), htk]
/-- One cell of the vector's row, set. -/
theorem Owns.vecSet {g cap q : Nat} (H : Owns w0 w (Asrt.vec vt e k p n xs :: R)) (hv : VecAt w vt e k p (.slice (some ⟨g, 0, none⟩) n cap) n xs) (hq : q < n * k) (u : Value) :
    Owns w0 (w.setCell ⟨g, q, none⟩ u) (Asrt.vec vt e k p n (xs.set q u) :: R) ∧ VecAt (w.setCell ⟨g, q, none⟩ u) vt e k p (.slice (some ⟨g, 0, none⟩) n cap) n (xs.set q u) ∧
      (∃ y, w.cell? ⟨g, q, none⟩ = some y) ∧ w.frozen? ⟨g, q, none⟩ = false := by
  have hpg : p ≠ g := fun e => hv.ne (by rw [e]; rfl)
  rcases row_form hv.row with ⟨h, _⟩ | ⟨g', cap', cur, h, hg, hnc, hcm, hcs, htk, hxl⟩
  · cases h
  cases h
  have hv' : VecAt (w.setCell ⟨g, q, none⟩ u) vt e k p (.slice (some ⟨g, 0, none⟩) n cap) n (xs.set q u) := by
    refine ⟨(Below.heap_setCell _ _ _ _ hpg).trans hv.obj, ⟨by simpa using hxl, .inr ⟨g, cap, _, rfl, Nat.zero_le _, heap_set_same hg u, hnc, hcm, by simpa using hcs, ?_⟩⟩, hv.ne⟩
    simp only [Array.toList_setIfInBounds]
    rw [← htk, List.take_set]
  refine ⟨H.step1 (fun F hF _ => ?_), hv', ⟨xs[q]'(by omega), ?_⟩, frozen_of_heap hg q⟩
  · obtain ⟨sv2, hv2, hu⟩ := H.vec
    have h1 := hv.cell
    rw [hv2.cell] at h1
    cases h1
    obtain rfl := hu F hF
    exact ⟨(Chg.refl _ w).setCell (fun _ => by simp [vfoot, Value.ownBlock]) _, _, ⟨_, rfl, hv'⟩, fun b hb => .inl hb⟩
  · have := hv.row.cells (g := g) rfl q _ (List.getElem?_eq_getElem (by omega))
    rwa [Addr.add_lit, Nat.zero_add] at this
theorem Owns.newVec {en : Ending} (H : Owns w0 w R) (h : NewVec w vt e k n xs en w') : RetX (fun p : Nat => .pointer (some ⟨p, 0, none⟩)) w0 (fun p => Asrt.vec vt e k p n xs :: R) en w' := by
  obtain ⟨p, sv, rfl, hv, hc, hn⟩ := h
  exact ⟨p, rfl, H.new hc ⟨_, ⟨sv, rfl, hv⟩, hn⟩⟩
theorem Owns.cloned {en : Ending} (H : Owns w0 w R) (h : Cloned w e k n xs en w') : RetX (fun v : Value => v) w0 (fun v => Asrt.row e k v n xs :: R) en w' := by
  obtain ⟨v, rfl, hv, hc, hn⟩ := h
  exact ⟨v, rfl, H.new hc ⟨_, ⟨rfl, hv⟩, fun b hb => hn b (by simpa using hb)⟩⟩
/-- append to a row of its own. -/
theorem Owns.app {P : Program} {t ty : TypeId} {i : TypeInfo} {z : Value} {bytes : Nat} (ht : P.underlying t = some (.slice e)) (hi : P.info? e = some i) (hz : i.zero = some z)
    (hsize : i.size = k) (hby : i.bytes = bytes) (hzs : z.cells.size = k) (hsz : 0 < k) {s x : Value} {m : Nat} {vs : List Value}
    (H : Owns w0 w (Asrt.row e k s n xs :: R)) (hv : Reads w0 R k x m vs) (h1 : ∀ u ∈ vs, u.oneCell' = true) (h63 : n + m ≤ maxLen) (hbytes : (n + m) * bytes ≤ 140737488355328) :
    ∃ v' w', (∀ ty, (Builtin.append_ #[t, t] ty #[s, x]).run P w = .ok v' w') ∧ Owns w0 w' (Asrt.row e k v' (n + m) (xs ++ vs) :: R) := by
  obtain ⟨v', w', hr, hrow, hc, hn⟩ := run_append_src (P := P) w t t e i z k bytes ht hi hz hsize hby hzs hsz s n xs H.row x m vs (hv w H.drop) h1 h63 hbytes
  refine ⟨v', w', fun _ => hr, H.step1 (fun F ⟨e1, _⟩ _ => ?_)⟩
  subst e1
  exact ⟨hc, _, ⟨rfl, hrow⟩, fun b hb => by simp at hb ⊢; exact hn b hb⟩
end
end Go.Fol
