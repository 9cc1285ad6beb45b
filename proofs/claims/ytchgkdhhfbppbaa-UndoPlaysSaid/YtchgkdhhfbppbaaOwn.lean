/- Which blocks a call may have changed ('Chg'), rows and vectors that stay where other blocks change. No program in sight. -/
import Derived.WalkKit
import Derived.Below
import Derived.Deep.Quiet
import Derived.Lib.Hide
namespace Go.Fol
open Go Go.RowKit
set_option linter.unusedVariables false
set_option linter.unusedSimpArgs false

/-- From w to w' only blocks of S (and new ones) may have changed. -/
structure Chg (S : List Nat) (w w' : World) : Prop where
  os : w'.os = w.os
  tape : w'.tape = w.tape
  output : w'.output = w.output
  size : w.heap.size ≤ w'.heap.size
  block : ∀ k, k < w.heap.size → k ∉ S → w'.heap[k]? = w.heap[k]?

theorem Chg.refl (S : List Nat) (w : World) : Chg S w w := ⟨rfl, rfl, rfl, Nat.le_refl _, fun _ _ _ => rfl⟩
theorem Chg.mono {S T : List Nat} {w w' : World} (h : Chg S w w') (hs : ∀ k, k ∈ S → k < w.heap.size → k ∈ T) : Chg T w w' :=
  ⟨h.os, h.tape, h.output, h.size, fun k hk hn => h.block k hk (fun hm => hn (hs k hm hk))⟩
theorem Chg.trans {S T : List Nat} {a b c : World} (h : Chg S a b) (g : Chg T b c) (ht : ∀ k, k ∈ T → k < a.heap.size → k ∈ S) : Chg S a c :=
  ⟨g.os.trans h.os, g.tape.trans h.tape, g.output.trans h.output, Nat.le_trans h.size g.size, fun k hk hn =>
    (g.block k (Nat.lt_of_lt_of_le hk h.size) (fun hm => hn (ht k hm hk))).trans (h.block k hk hn)⟩
theorem Chg.trans' {S : List Nat} {a b c : World} (h : Chg S a b) (g : Chg S b c) : Chg S a c := h.trans g (fun _ h _ => h)
theorem Chg.nil_trans {S : List Nat} {a b c : World} (h : Chg S a b) (g : Chg [] b c) : Chg S a c := h.trans g (fun _ h _ => by cases h)
theorem Chg.alloc {S : List Nat} {a w : World} (h : Chg S a w) (o : Obj) : Chg S a (w.alloc o) :=
  ⟨h.os, h.tape, h.output, Nat.le_trans h.size (by simp), fun k hk hn => (Below.heap_alloc _ _ _ (Nat.lt_of_lt_of_le hk h.size)).trans (h.block k hk hn)⟩
theorem Chg.drew {S : List Nat} {a w : World} (h : Chg S a w) : Chg S a w.drew := ⟨h.os, h.tape, h.output, h.size, h.block⟩
theorem Chg.drewN {S : List Nat} {a w : World} (h : Chg S a w) (n : Nat) : Chg S a (w.drewN n) := ⟨h.os, h.tape, h.output, h.size, h.block⟩
theorem Chg.setCell {S : List Nat} {a w : World} (h : Chg S a w) {p : Addr} (hp : p.block < a.heap.size → p.block ∈ S) (u : Value) : Chg S a (w.setCell p u) :=
  ⟨h.os, h.tape, h.output, Nat.le_trans h.size (by simp [World.setCell]), fun k hk hn => (Below.heap_setCell _ _ _ _ (fun e => hn (by rw [e]; exact hp (by rw [← e]; exact hk)))).trans (h.block k hk hn)⟩
theorem Chg.grown {S : List Nat} {a w w' : World} {row : Option Nat} (h : Chg S a w) (g : w.grownBy w' row) (hr : ∀ k, row = some k → k < a.heap.size → k ∈ S) : Chg S a w' :=
  ⟨g.os.trans h.os, g.tape.trans h.tape, g.output.trans h.output, Nat.le_trans h.size g.size, fun k hk hn =>
    (g.block k (Nat.lt_of_lt_of_le hk h.size) (fun e => hn (hr k e.symm hk))).trans (h.block k hk hn)⟩
theorem Chg.below {B : Nat} {S : List Nat} {w w' : World} (h : Chg S w w') (hB : B ≤ w.heap.size) (hS : ∀ k ∈ S, B ≤ k) : Below B w w' :=
  ⟨h.os, h.tape, h.output, h.size, fun k hk => h.block k (Nat.lt_of_lt_of_le hk hB) (fun hm => Nat.lt_irrefl _ (Nat.lt_of_lt_of_le hk (hS k hm)))⟩
theorem Below.chg {w w' : World} (h : Below w.heap.size w w') : Chg [] w w' := ⟨h.os, h.tape, h.output, h.size, fun k hk _ => h.block k hk⟩
theorem Chg.cell {S : List Nat} {w w' : World} (h : Chg S w w') {p : Addr} {v : Value} (hc : w.cell? p = some v) (hn : p.block ∉ S) : w'.cell? p = some v :=
  (World.cell?_of_block (w := w) (h.block _ (World.block_lt_of_cell? w p hc) hn)).trans hc
theorem Chg.heap {S : List Nat} {w w' : World} (h : Chg S w w') {k : Nat} {o : Obj} (hc : w.heap[k]? = some o) (hn : k ∉ S) : w'.heap[k]? = some o :=
  (h.block _ (Array.getElem?_eq_some_iff.1 hc).1 hn).trans hc
theorem heap_lt {w : World} {k : Nat} {o : Obj} (h : w.heap[k]? = some o) : k < w.heap.size := (Array.getElem?_eq_some_iff.1 h).1
theorem cell_of_heap {w : World} {k : Nat} {c : Array Value} {e : TypeId} {f : Nat × Nat} (h : w.heap[k]? = some (.cells c e f)) {j : Nat} {v : Value} (hv : c[j]? = some v) : w.cell? ⟨k, j, none⟩ = some v := by
  simp [World.cell?, h, hv]
theorem frozen_of_heap {w : World} {k : Nat} {c : Array Value} {e : TypeId} (h : w.heap[k]? = some (.cells c e (0, 0))) (j : Nat) : w.frozen? ⟨k, j, none⟩ = false := by
  simp [World.frozen?, h]
theorem heap_set_same {w : World} {k j : Nat} {c : Array Value} {e : TypeId} {f : Nat × Nat} (h : w.heap[k]? = some (.cells c e f)) (u : Value) :
    (w.setCell ⟨k, j, none⟩ u).heap[k]? = some (.cells (c.setIfInBounds j u) e f) := by
  simp [World.setCell, Array.getElem?_modify, h]

theorem run_storeCells_one {P : Program} {w : World} {a : Addr} {x y : Value} (hx : x.oneCell' = true) (hc : w.cell? a = some y) (hf : w.frozen? a = false) :
    (storeCells a [x]).run P w = .ok () (w.setCell a x) := by
  simp [storeCells, Addr.add, run_store P w a x _ hx, hc, hf]
/-! ### a row that a value owns -/
theorem row_keep {S : List Nat} {w w' : World} {e : TypeId} {k : Nat} {v : Value} {n : Nat} {xs : List Value} (h : w.ownsRow 0 e k v n xs) (g : Chg S w w') (hn : ∀ b, v.ownBlock = some b → b ∉ S) : w'.ownsRow 0 e k v n xs := by
  refine ⟨h.1, ?_⟩
  rcases h.2 with h2 | ⟨b, cap, cur, rfl, hb, hh, r⟩
  · exact .inl h2
  · exact .inr ⟨b, cap, cur, rfl, hb, g.heap hh (hn b rfl), r⟩
theorem row_lt {w : World} {e : TypeId} {k : Nat} {v : Value} {n : Nat} {xs : List Value} (h : w.ownsRow 0 e k v n xs) {b : Nat} (hb : v.ownBlock = some b) : b < w.heap.size := (h.lt b hb).2
theorem row_cells {w : World} {e : TypeId} {k : Nat} {v : Value} {n : Nat} {xs : List Value} (h : w.ownsRow 0 e k v n xs) {b : Nat} (hb : v.ownBlock = some b) : ∃ c f, w.heap[b]? = some (.cells c e f) := by
  rcases h.2 with ⟨rfl, _⟩ | ⟨g, cap, cur, rfl, _, hg, _⟩
  · cases hb
  · cases hb; exact ⟨_, _, hg⟩
/-- The value's form: nil, or the head of a block. -/
theorem row_form {w : World} {e : TypeId} {k : Nat} {v : Value} {n : Nat} {xs : List Value} (h : w.ownsRow 0 e k v n xs) :
    (v = .slice none 0 0 ∧ n = 0 ∧ xs = []) ∨ ∃ g cap cur, v = .slice (some ⟨g, 0, none⟩) n cap ∧ w.heap[g]? = some (.cells cur e (0, 0)) ∧ n ≤ cap ∧ cap ≤ maxLen ∧ cur.size = cap * k ∧ cur.toList.take (n * k) = xs ∧ xs.length = n * k := by
  rcases h.2 with ⟨rfl, rfl⟩ | ⟨g, cap, cur, rfl, _, a, b, c, d, e⟩
  · exact .inl ⟨rfl, rfl, List.eq_nil_of_length_eq_zero (by simpa using h.1)⟩
  · exact .inr ⟨g, cap, cur, rfl, a, b, c, d, e, h.1⟩

/-- A vector's block p holds the slice value sv, which owns a row of n elements, k cells each. -/
structure VecAt (w : World) (vt e : TypeId) (k p : Nat) (sv : Value) (n : Nat) (xs : List Value) : Prop where
  obj : w.heap[p]? = some (.cells #[sv] vt (0, 0))
  row : w.ownsRow 0 e k sv n xs
  ne : sv.ownBlock ≠ some p
section
variable {w w' : World} {vt e : TypeId} {k p : Nat} {sv : Value} {n : Nat} {xs : List Value}
theorem VecAt.keep {S : List Nat} (h : VecAt w vt e k p sv n xs) (g : Chg S w w') (hp : p ∉ S) (hn : ∀ b, sv.ownBlock = some b → b ∉ S) : VecAt w' vt e k p sv n xs :=
  ⟨g.heap h.obj hp, row_keep h.row g hn, h.ne⟩
theorem VecAt.lt (h : VecAt w vt e k p sv n xs) : p < w.heap.size := heap_lt h.obj
theorem VecAt.row_lt (h : VecAt w vt e k p sv n xs) {b : Nat} (hb : sv.ownBlock = some b) : b < w.heap.size := Go.Fol.row_lt h.row hb
theorem VecAt.cell (h : VecAt w vt e k p sv n xs) : w.cell? ⟨p, 0, none⟩ = some sv := cell_of_heap h.obj rfl
theorem VecAt.frozen (h : VecAt w vt e k p sv n xs) : w.frozen? ⟨p, 0, none⟩ = false := frozen_of_heap h.obj 0
theorem VecAt.len (h : VecAt w vt e k p sv n xs) : xs.length = n * k := h.row.1
/-- its blocks. -/
def vfoot (p : Nat) (sv : Value) : List Nat := p :: sv.ownBlock.toList
theorem VecAt.foot_lt (h : VecAt w vt e k p sv n xs) : ∀ b ∈ vfoot p sv, b < w.heap.size := by
  intro b hb
  simp only [vfoot, List.mem_cons, Option.mem_toList] at hb
  rcases hb with rfl | hb
  · exact h.lt
  · exact h.row_lt hb
theorem VecAt.keep' {S : List Nat} (h : VecAt w vt e k p sv n xs) (g : Chg S w w') (hd : ∀ b ∈ vfoot p sv, b ∉ S) : VecAt w' vt e k p sv n xs :=
  h.keep g (hd p (by simp [vfoot])) (fun b hb => hd b (by simp [vfoot, hb]))
end
/-- What a call that changes a vector leaves: the same block, a row in the old block or in a new one; nothing else has changed. -/
structure Moved (w w' : World) (p : Nat) (sv sv' : Value) : Prop where
  chg : Chg (vfoot p sv) w w'
  new : ∀ b, sv'.ownBlock = some b → sv.ownBlock = some b ∨ w.heap.size ≤ b
theorem Moved.off {w w' : World} {p : Nat} {sv sv' : Value} (h : Moved w w' p sv sv') {T : List Nat} (hT : ∀ b ∈ T, b < w.heap.size) (hd : ∀ b ∈ vfoot p sv, b ∉ T) : ∀ b ∈ vfoot p sv', b ∉ T := by
  intro b hb
  simp only [vfoot, List.mem_cons, Option.mem_toList] at hb
  rcases hb with rfl | hb
  · exact hd _ (by simp [vfoot])
  · rcases h.new b hb with h1 | h1
    · exact hd b (by simp [vfoot, h1])
    · exact fun hm => Nat.lt_irrefl _ (Nat.lt_of_lt_of_le (hT b hm) h1)

/-- A slice that can be read: nil, or an address with its cells (k an element). -/
def SrcV (w : World) (k : Nat) (v : Value) (n : Nat) (xs : List Value) : Prop :=
  (v = .slice none 0 0 ∧ n = 0 ∧ xs = []) ∨ ∃ a c, v = .slice (some a) n c ∧ n ≤ c ∧ c ≤ maxLen ∧ xs.length = n * k ∧ (∀ j u, xs[j]? = some u → w.cell? (a.add j) = some u)
theorem SrcV.keep {S : List Nat} {w w' : World} {k : Nat} {v : Value} {n : Nat} {xs : List Value} (h : SrcV w k v n xs) (g : Chg S w w') (hn : ∀ b, v.ownBlock = some b → b ∉ S) : SrcV w' k v n xs := by
  rcases h with h | ⟨a, c, rfl, h1, h2, h3, h4⟩
  · exact .inl h
  · refine .inr ⟨a, c, rfl, h1, h2, h3, fun j u hj => g.cell (h4 j u hj) ?_⟩
    have : (a.add j).block = a.block := by unfold Addr.add; split <;> rfl
    rw [this]
    exact hn _ rfl
theorem SrcV.of_row {w : World} {e : TypeId} {k : Nat} {v : Value} {n : Nat} {xs : List Value} (h : w.ownsRow 0 e k v n xs) : SrcV w k v n xs := by
  rcases row_form h with h1 | ⟨g, cap, cur, rfl, hg, h1, h2, _, _, h3⟩
  · exact .inl h1
  · exact .inr ⟨_, _, rfl, h1, h2, h3, fun j u hj => h.cells (g := g) rfl j u hj⟩
theorem SrcV.form {w : World} {k : Nat} {v : Value} {n : Nat} {xs : List Value} (h : SrcV w k v n xs) : ∃ a c, v = .slice a n c := by
  rcases h with ⟨rfl, rfl, _⟩ | ⟨a, c, rfl, _⟩ <;> exact ⟨_, _, rfl⟩
theorem row_slice {w : World} {e : TypeId} {k : Nat} {v : Value} {n : Nat} {xs : List Value} (h : w.ownsRow 0 e k v n xs) : ∃ a c, v = .slice a n c := by
  rcases row_form h with ⟨rfl, rfl, _⟩ | ⟨g, cap, cur, rfl, _⟩ <;> exact ⟨_, _, rfl⟩
theorem row_base {w : World} {B : Nat} {e : TypeId} {k : Nat} {v : Value} {n : Nat} {xs : List Value} (h : w.ownsRow B e k v n xs) : w.ownsRow 0 e k v n xs ∧ ∀ b, v.ownBlock = some b → B ≤ b :=
  ⟨⟨h.1, h.2.imp id (fun ⟨g, cap, cur, a, b, r⟩ => ⟨g, cap, cur, a, Nat.zero_le _, r⟩)⟩, fun b hb => (h.lt b hb).1⟩
/-- A clone: a row in new memory (or nil). -/
def Cloned (w : World) (e : TypeId) (k n : Nat) (xs : List Value) (en : Ending) (w' : World) : Prop :=
  ∃ v', en = .returned v' ∧ w'.ownsRow 0 e k v' n xs ∧ Chg [] w w' ∧ (∀ b, v'.ownBlock = some b → w.heap.size ≤ b)
/-- A new vector. -/
def NewVec (w : World) (vt e : TypeId) (k n : Nat) (xs : List Value) (en : Ending) (w' : World) : Prop :=
  ∃ p sv, en = .returned (.pointer (some ⟨p, 0, none⟩)) ∧ VecAt w' vt e k p sv n xs ∧ Chg [] w w' ∧ (∀ b ∈ vfoot p sv, w.heap.size ≤ b)
/-- A row that an operation on another row handed back. -/
def RowBack (w : World) (e : TypeId) (k n : Nat) (xs : List Value) (s : Value) (en : Ending) (w' : World) : Prop :=
  ∃ v', en = .returned v' ∧ w'.ownsRow 0 e k v' n xs ∧ Chg s.ownBlock.toList w w' ∧ (∀ b, v'.ownBlock = some b → s.ownBlock = some b ∨ w.heap.size ≤ b)
/-- A vector that was changed, and what was answered. -/
def VecBack (w : World) (vt e : TypeId) (k p n : Nat) (xs : List Value) (sv r : Value) (en : Ending) (w' : World) : Prop :=
  ∃ sv', en = .returned r ∧ VecAt w' vt e k p sv' n xs ∧ Moved w w' p sv sv'

/-- integers as cells. -/
def ints (l : List Int) : List Value := l.map (Value.int .i64)
theorem ints_one (l : List Int) : ∀ u ∈ ints l, u.oneCell' = true := by
  intro u hu
  obtain ⟨n, _, rfl⟩ := List.mem_map.1 hu
  rfl
theorem ints_len (l : List Int) : (ints l).length = l.length := by simp [ints]
theorem ints_get (l : List Int) {k : Nat} (h : k < l.length) : (ints l)[k]? = some (.int .i64 (l[k]?.getD 0)) := by
  simp [ints, h]
theorem ints_append (a b : List Int) : ints (a ++ b) = ints a ++ ints b := by simp [ints]
theorem ints_take (l : List Int) (k : Nat) : ints (l.take k) = (ints l).take k := by simp [ints]
theorem ints_drop (l : List Int) (k : Nat) : ints (l.drop k) = (ints l).drop k := by simp [ints]
theorem ints_set (l : List Int) (k : Nat) (x : Int) : ints (l.set k x) = (ints l).set k (.int .i64 x) := by simp [ints, List.map_set]
theorem ints_inj {a b : List Int} (h : ints a = ints b) : a = b := by
  induction a generalizing b with
  | nil => cases b <;> simp_all [ints]
  | cons x a ih => cases b with
    | nil => simp [ints] at h
    | cons y b =>
      simp only [ints, List.map_cons, List.cons.injEq, Value.int.injEq, true_and] at h
      rw [h.1, ih (by simpa [ints] using h.2)]
/-- A slice that can be read and is not empty: its cells by place. -/
theorem SrcV.cells {w : World} {k : Nat} {v : Value} {n : Nat} {xs : List Value} (h : SrcV w k v n xs) (hn : 0 < n) (hk : 0 < k) :
    ∃ b off c, v = .slice (some ⟨b, off, none⟩) n c ∧ n ≤ c ∧ b < w.heap.size ∧ ∀ j u, xs[j]? = some u → w.cell? ⟨b, off + j, none⟩ = some u := by
  rcases h with ⟨_, rfl, _⟩ | ⟨a, c, rfl, h1, h2, h3, h4⟩
  · omega
  · have hl : 0 < xs.length := by rw [h3]; exact Nat.mul_pos hn hk
    have h0 := h4 0 _ (List.getElem?_eq_getElem hl)
    have hadd : a.add 0 = a := by simp [Addr.add]
    rw [hadd] at h0
    have hs := World.cell?_spot h0
    have hb := World.block_lt_of_cell? w a h0
    obtain ⟨b, off, spot⟩ := a
    obtain rfl : spot = none := hs
    exact ⟨b, off, c, rfl, h1, hb, fun j u hj => by have := h4 j u hj; rwa [Addr.add_lit] at this⟩
theorem SrcV.len {w : World} {k : Nat} {v : Value} {n : Nat} {xs : List Value} (h : SrcV w k v n xs) : xs.length = n * k := by
  rcases h with ⟨_, rfl, rfl⟩ | ⟨a, c, rfl, h1, h2, h3, h4⟩
  · simp
  · exact h3
theorem SrcV.n63 {w : World} {k : Nat} {v : Value} {n : Nat} {xs : List Value} (h : SrcV w k v n xs) : n ≤ 9223372036854775807 := by
  rcases h with ⟨_, rfl, rfl⟩ | ⟨a, c, rfl, h1, h2, h3, h4⟩
  · omega
  · unfold maxLen at h2; omega
/-- A slice literal just laid. -/
theorem srcv_new (w : World) (cs : List Value) (e : TypeId) (n : Nat) (k : Nat) (hn : cs.length = n * k) (hm : n ≤ maxLen) : SrcV (w.alloc (.cells cs.toArray e)) k (.slice (some ⟨w.heap.size, 0, none⟩) n n) n cs := by
  refine .inr ⟨_, _, rfl, Nat.le_refl _, hm, hn, fun j u hj => ?_⟩
  rw [Addr.add_lit, Nat.zero_add]
  exact cell_of_heap (heap_alloc_new w _) (by simpa using hj)
theorem VecAt.alloc {w : World} {vt e : TypeId} {k p : Nat} {sv : Value} {n : Nat} {xs : List Value} (h : VecAt w vt e k p sv n xs) (o : Obj) : VecAt (w.alloc o) vt e k p sv n xs := h.keep ((Chg.refl [] w).alloc o) (by simp) (fun _ _ => by simp)
theorem VecAt.off_new {w : World} {vt e : TypeId} {k p : Nat} {sv : Value} {n : Nat} {xs : List Value} (h : VecAt w vt e k p sv n xs) : sv.ownBlock ≠ some w.heap.size := fun e => Nat.lt_irrefl _ (h.row_lt e)
/-- A vector laid since w0, and nothing older has changed. -/
structure Own (w0 w : World) (vt e : TypeId) (k p : Nat) (sv : Value) (n : Nat) (xs : List Value) : Prop where
  vec : VecAt w vt e k p sv n xs
  chg : Chg [] w0 w
  new : ∀ b ∈ vfoot p sv, w0.heap.size ≤ b
section
variable {w0 w w' : World} {vt e : TypeId} {k p : Nat} {sv sv' : Value} {n n' : Nat} {xs xs' : List Value}
theorem Own.alloc (h : Own w0 w vt e k p sv n xs) (o : Obj) : Own w0 (w.alloc o) vt e k p sv n xs := ⟨h.vec.alloc o, h.chg.alloc o, h.new⟩
theorem Own.quiet (h : Own w0 w vt e k p sv n xs) (g : Chg [] w w') : Own w0 w' vt e k p sv n xs := ⟨h.vec.keep' g (fun _ _ => by simp), h.chg.nil_trans g, h.new⟩
theorem Own.moved (h : Own w0 w vt e k p sv n xs) (hv : VecAt w' vt e k p sv' n' xs') (g : Moved w w' p sv sv') : Own w0 w' vt e k p sv' n' xs' := by
  refine ⟨hv, h.chg.trans g.chg (fun b hb hl => absurd hl (Nat.not_lt.2 (h.new b hb))), ?_⟩
  intro b hb
  simp only [vfoot, List.mem_cons, Option.mem_toList] at hb
  rcases hb with rfl | hb
  · exact h.new _ (by simp [vfoot])
  · rcases g.new b hb with h1 | h1
    · exact h.new b (by simp [vfoot, h1])
    · exact Nat.le_trans h.chg.size h1
theorem Own.of_new {w1 : World} (h0 : Chg [] w0 w) (hv : VecAt w1 vt e k p sv n xs) (hc : Chg [] w w1) (hn : ∀ b ∈ vfoot p sv, w.heap.size ≤ b) : Own w0 w1 vt e k p sv n xs :=
  ⟨hv, h0.nil_trans hc, fun b hb => Nat.le_trans h0.size (hn b hb)⟩
end
end Go.Fol
