/- Texts of this seat, joined: Own Cells Held App Range Break Sep RangeO Flat StillIn Full HeldIn HeldIn2 HeldIn3 RangeS Str Row Rd. -/
import Derived.WalkKit
import Derived.Below
import Derived.Deep.Quiet
import Derived.Lib.Hide
import Derived.Laws.CopyOwn
import Derived.Laws.IdiomCopy
import Derived.Laws.Externs
import Derived.Lib.AppendZerosOnto
import Derived.Lib.AppendZeros
import Derived.Deep.RegionLaw
import Derived.Test.YtcdoomlagmddcaaGreatDoorRead
import Derived.RangeFuncNested
import Derived.RangeFuncBound
import Derived.RangeFuncCalls
import Derived.RangeFuncLeaves
import Derived.RangeFuncBox
import Derived.OwnWalkIn
import Derived.StillTail
import Derived.StillTactics
import Derived.OrdersHeld
import Derived.Deep.RegionHeld
import Derived.Laws.IdiomStrings
import Derived.WalkSpells
import Derived.Lib.SlBytesConst
import Derived.Lib.BufferRead
/-! Which blocks a call may have changed ('Chg'), rows and vectors that stay where other blocks change. No program in sight. -/
namespace Go.Fol
open Go Go.RowKit
set_option linter.unusedVariables false
set_option linter.unusedSimpArgs false

/-- From w to w' only blocks of S (and new ones) may have changed. -/
structure Chg (S : List Nat) (w w' : World) : Prop where
  os : w'.os = w.os
  tape : w'.tape = w.tape
  output : w'.output = w.output
  size : w.heap.size ≤ w'.heap.size
  block : ∀ k, k < w.heap.size → k ∉ S → w'.heap[k]? = w.heap[k]?

theorem Chg.refl (S : List Nat) (w : World) : Chg S w w := ⟨rfl, rfl, rfl, Nat.le_refl _, fun _ _ _ => rfl⟩
theorem Chg.mono {S T : List Nat} {w w' : World} (h : Chg S w w') (hs : ∀ k, k ∈ S → k < w.heap.size → k ∈ T) : Chg T w w' :=
  ⟨h.os, h.tape, h.output, h.size, fun k hk hn => h.block k hk (fun hm => hn (hs k hm hk))⟩
theorem Chg.trans {S T : List Nat} {a b c : World} (h : Chg S a b) (g : Chg T b c) (ht : ∀ k, k ∈ T → k < a.heap.size → k ∈ S) : Chg S a c :=
  ⟨g.os.trans h.os, g.tape.trans h.tape, g.output.trans h.output, Nat.le_trans h.size g.size, fun k hk hn =>
    (g.block k (Nat.lt_of_lt_of_le hk h.size) (fun hm => hn (ht k hm hk))).trans (h.block k hk hn)⟩
theorem Chg.trans' {S : List Nat} {a b c : World} (h : Chg S a b) (g : Chg S b c) : Chg S a c := h.trans g (fun _ h _ => h)
theorem Chg.nil_trans {S : List Nat} {a b c : World} (h : Chg S a b) (g : Chg [] b c) : Chg S a c := h.trans g (fun _ h _ => by cases h)
theorem Chg.alloc {S : List Nat} {a w : World} (h : Chg S a w) (o : Obj) : Chg S a (w.alloc o) :=
  ⟨h.os, h.tape, h.output, Nat.le_trans h.size (by simp), fun k hk hn => (Below.heap_alloc _ _ _ (Nat.lt_of_lt_of_le hk h.size)).trans (h.block k hk hn)⟩
theorem Chg.drew {S : List Nat} {a w : World} (h : Chg S a w) : Chg S a w.drew := ⟨h.os, h.tape, h.output, h.size, h.block⟩
theorem Chg.drewN {S : List Nat} {a w : World} (h : Chg S a w) (n : Nat) : Chg S a (w.drewN n) := ⟨h.os, h.tape, h.output, h.size, h.block⟩
theorem Chg.setCell {S : List Nat} {a w : World} (h : Chg S a w) {p : Addr} (hp : p.block < a.heap.size → p.block ∈ S) (u : Value) : Chg S a (w.setCell p u) :=
  ⟨h.os, h.tape, h.output, Nat.le_trans h.size (by simp [World.setCell]), fun k hk hn => (Below.heap_setCell _ _ _ _ (fun e => hn (by rw [e]; exact hp (by rw [← e]; exact hk)))).trans (h.block k hk hn)⟩
theorem Chg.grown {S : List Nat} {a w w' : World} {row : Option Nat} (h : Chg S a w) (g : w.grownBy w' row) (hr : ∀ k, row = some k → k < a.heap.size → k ∈ S) : Chg S a w' :=
  ⟨g.os.trans h.os, g.tape.trans h.tape, g.output.trans h.output, Nat.le_trans h.size g.size, fun k hk hn =>
    (g.block k (Nat.lt_of_lt_of_le hk h.size) (fun e => hn (hr k e.symm hk))).trans (h.block k hk hn)⟩
theorem Chg.below {B : Nat} {S : List Nat} {w w' : World} (h : Chg S w w') (hB : B ≤ w.heap.size) (hS : ∀ k ∈ S, B ≤ k) : Below B w w' :=
  ⟨h.os, h.tape, h.output, h.size, fun k hk => h.block k (Nat.lt_of_lt_of_le hk hB) (fun hm => Nat.lt_irrefl _ (Nat.lt_of_lt_of_le hk (hS k hm)))⟩
theorem Below.chg {w w' : World} (h : Below w.heap.size w w') : Chg [] w w' := ⟨h.os, h.tape, h.output, h.size, fun k hk _ => h.block k hk⟩
theorem Chg.cell {S : List Nat} {w w' : World} (h : Chg S w w') {p : Addr} {v : Value} (hc : w.cell? p = some v) (hn : p.block ∉ S) : w'.cell? p = some v :=
  (World.cell?_of_block (w := w) (h.block _ (World.block_lt_of_cell? w p hc) hn)).trans hc
theorem Chg.heap {S : List Nat} {w w' : World} (h : Chg S w w') {k : Nat} {o : Obj} (hc : w.heap[k]? = some o) (hn : k ∉ S) : w'.heap[k]? = some o :=
  (h.block _ (Array.getElem?_eq_some_iff.1 hc).1 hn).trans hc
theorem heap_lt {w : World} {k : Nat} {o : Obj} (h : w.heap[k]? = some o) : k < w.heap.size := (Array.getElem?_eq_some_iff.1 h).1
theorem cell_of_heap {w : World} {k : Nat} {c : Array Value} {e : TypeId} {f : Nat × Nat} (h : w.heap[k]? = some (.cells c e f)) {j : Nat} {v : Value} (hv : c[j]? = some v) : w.cell? ⟨k, j, none⟩ = some v := by
  simp [World.cell?, h, hv]
theorem frozen_of_heap {w : World} {k : Nat} {c : Array Value} {e : TypeId} (h : w.heap[k]? = some (.cells c e (0, 0))) (j : Nat) : w.frozen? ⟨k, j, none⟩ = false := by
  simp [World.frozen?, h]
theorem heap_set_same {w : World} {k j : Nat} {c : Array Value} {e : TypeId} {f : Nat × Nat} (h : w.heap[k]? = some (.cells c e f)) (u : Value) :
    (w.setCell ⟨k, j, none⟩ u).heap[k]? = some (.cells (c.setIfInBounds j u) e f) := by
  simp [World.setCell, Array.getElem?_modify, h]

theorem run_storeCells_one {P : Program} {w : World} {a : Addr} {x y : Value} (hx : x.oneCell' = true) (hc : w.cell? a = some y) (hf : w.frozen? a = false) :
    (storeCells a [x]).run P w = .ok () (w.setCell a x) := by
  simp [storeCells, Addr.add, run_store P w a x _ hx, hc, hf]
/-! ### a row that a value owns -/
theorem row_keep {S : List Nat} {w w' : World} {e : TypeId} {k : Nat} {v : Value} {n : Nat} {xs : List Value} (h : w.ownsRow 0 e k v n xs) (g : Chg S w w') (hn : ∀ b, v.ownBlock = some b → b ∉ S) : w'.ownsRow 0 e k v n xs := by
  refine ⟨h.1, ?_⟩
  rcases h.2 with h2 | ⟨b, cap, cur, rfl, hb, hh, r⟩
  · exact .inl h2
  · exact .inr ⟨b, cap, cur, rfl, hb, g.heap hh (hn b rfl), r⟩
theorem row_lt {w : World} {e : TypeId} {k : Nat} {v : Value} {n : Nat} {xs : List Value} (h : w.ownsRow 0 e k v n xs) {b : Nat} (hb : v.ownBlock = some b) : b < w.heap.size := (h.lt b hb).2
theorem row_cells {w : World} {e : TypeId} {k : Nat} {v : Value} {n : Nat} {xs : List Value} (h : w.ownsRow 0 e k v n xs) {b : Nat} (hb : v.ownBlock = some b) : ∃ c f, w.heap[b]? = some (.cells c e f) := by
  rcases h.2 with ⟨rfl, _⟩ | ⟨g, cap, cur, rfl, _, hg, _⟩
  · cases hb
  · cases hb; exact ⟨_, _, hg⟩
/-- The value's form: nil, or the head of a block. -/
theorem row_form {w : World} {e : TypeId} {k : Nat} {v : Value} {n : Nat} {xs : List Value} (h : w.ownsRow 0 e k v n xs) :
    (v = .slice none 0 0 ∧ n = 0 ∧ xs = []) ∨ ∃ g cap cur, v = .slice (some ⟨g, 0, none⟩) n cap ∧ w.heap[g]? = some (.cells cur e (0, 0)) ∧ n ≤ cap ∧ cap ≤ maxLen ∧ cur.size = cap * k ∧ cur.toList.take (n * k) = xs ∧ xs.length = n * k := by
  rcases h.2 with ⟨rfl, rfl⟩ | ⟨g, cap, cur, rfl, _, a, b, c, d, e⟩
  · exact .inl ⟨rfl, rfl, List.eq_nil_of_length_eq_zero (by simpa using h.1)⟩
  · exact .inr ⟨g, cap, cur, rfl, a, b, c, d, e, h.1⟩

/-- A vector's block p holds the slice value sv, which owns a row of n elements, k cells each. -/
structure VecAt (w : World) (vt e : TypeId) (k p : Nat) (sv : Value) (n : Nat) (xs : List Value) : Prop where
  obj : w.heap[p]? = some (.cells #[sv] vt (0, 0))
  row : w.ownsRow 0 e k sv n xs
  ne : sv.ownBlock ≠ some p
section
variable {w w' : World} {vt e : TypeId} {k p : Nat} {sv : Value} {n : Nat} {xs : List Value}
theorem VecAt.keep {S : List Nat} (h : VecAt w vt e k p sv n xs) (g : Chg S w w') (hp : p ∉ S) (hn : ∀ b, sv.ownBlock = some b → b ∉ S) : VecAt w' vt e k p sv n xs :=
  ⟨g.heap h.obj hp, row_keep h.row g hn, h.ne⟩
theorem VecAt.lt (h : VecAt w vt e k p sv n xs) : p < w.heap.size := heap_lt h.obj
theorem VecAt.row_lt (h : VecAt w vt e k p sv n xs) {b : Nat} (hb : sv.ownBlock = some b) : b < w.heap.size := Go.Fol.row_lt h.row hb
theorem VecAt.cell (h : VecAt w vt e k p sv n xs) : w.cell? ⟨p, 0, none⟩ = some sv := cell_of_heap h.obj rfl
theorem VecAt.frozen (h : VecAt w vt e k p sv n xs) : w.frozen? ⟨p, 0, none⟩ = false := frozen_of_heap h.obj 0
theorem VecAt.len (h : VecAt w vt e k p sv n xs) : xs.length = n * k := h.row.1
/-- its blocks. -/
def vfoot (p : Nat) (sv : Value) : List Nat := p :: sv.ownBlock.toList
theorem VecAt.foot_lt (h : VecAt w vt e k p sv n xs) : ∀ b ∈ vfoot p sv, b < w.heap.size := by
  intro b hb
  simp only [vfoot, List.mem_cons, Option.mem_toList] at hb
  rcases hb with rfl | hb
  · exact h.lt
  · exact h.row_lt hb
theorem VecAt.keep' {S : List Nat} (h : VecAt w vt e k p sv n xs) (g : Chg S w w') (hd : ∀ b ∈ vfoot p sv, b ∉ S) : VecAt w' vt e k p sv n xs :=
  h.keep g (hd p (by simp [vfoot])) (fun b hb => hd b (by simp [vfoot, hb]))
end
/-- What a call that changes a vector leaves: the same block, a row in the old block or in a new one; nothing else has changed. -/
structure Moved (w w' : World) (p : Nat) (sv sv' : Value) : Prop where
  chg : Chg (vfoot p sv) w w'
  new : ∀ b, sv'.ownBlock = some b → sv.ownBlock = some b ∨ w.heap.size ≤ b
theorem Moved.off {w w' : World} {p : Nat} {sv sv' : Value} (h : Moved w w' p sv sv') {T : List Nat} (hT : ∀ b ∈ T, b < w.heap.size) (hd : ∀ b ∈ vfoot p sv, b ∉ T) : ∀ b ∈ vfoot p sv', b ∉ T := by
  intro b hb
  simp only [vfoot, List.mem_cons, Option.mem_toList] at hb
  rcases hb with rfl | hb
  · exact hd _ (by simp [vfoot])
  · rcases h.new b hb with h1 | h1
    · exact hd b (by simp [vfoot, h1])
    · exact fun hm => Nat.lt_irrefl _ (Nat.lt_of_lt_of_le (hT b hm) h1)

/-- A slice that can be read: nil, or an address with its cells (k an element). -/
def SrcV (w : World) (k : Nat) (v : Value) (n : Nat) (xs : List Value) : Prop :=
  (v = .slice none 0 0 ∧ n = 0 ∧ xs = []) ∨ ∃ a c, v = .slice (some a) n c ∧ n ≤ c ∧ c ≤ maxLen ∧ xs.length = n * k ∧ (∀ j u, xs[j]? = some u → w.cell? (a.add j) = some u)
theorem SrcV.keep {S : List Nat} {w w' : World} {k : Nat} {v : Value} {n : Nat} {xs : List Value} (h : SrcV w k v n xs) (g : Chg S w w') (hn : ∀ b, v.ownBlock = some b → b ∉ S) : SrcV w' k v n xs := by
  rcases h with h | ⟨a, c, rfl, h1, h2, h3, h4⟩
  · exact .inl h
  · refine .inr ⟨a, c, rfl, h1, h2, h3, fun j u hj => g.cell (h4 j u hj) ?_⟩
    have : (a.add j).block = a.block := by unfold Addr.add; split <;> rfl
    rw [this]
    exact hn _ rfl
theorem SrcV.of_row {w : World} {e : TypeId} {k : Nat} {v : Value} {n : Nat} {xs : List Value} (h : w.ownsRow 0 e k v n xs) : SrcV w k v n xs := by
  rcases row_form h with h1 | ⟨g, cap, cur, rfl, hg, h1, h2, _, _, h3⟩
  · exact .inl h1
  · exact .inr ⟨_, _, rfl, h1, h2, h3, fun j u hj => h.cells (g := g) rfl j u hj⟩
theorem SrcV.form {w : World} {k : Nat} {v : Value} {n : Nat} {xs : List Value} (h : SrcV w k v n xs) : ∃ a c, v = .slice a n c := by
  rcases h with ⟨rfl, rfl, _⟩ | ⟨a, c, rfl, _⟩ <;> exact ⟨_, _, rfl⟩
theorem row_slice {w : World} {e : TypeId} {k : Nat} {v : Value} {n : Nat} {xs : List Value} (h : w.ownsRow 0 e k v n xs) : ∃ a c, v = .slice a n c := by
  rcases row_form h with ⟨rfl, rfl, _⟩ | ⟨g, cap, cur, rfl, _⟩ <;> exact ⟨_, _, rfl⟩
theorem row_base {w : World} {B : Nat} {e : TypeId} {k : Nat} {v : Value} {n : Nat} {xs : List Value} (h : w.ownsRow B e k v n xs) : w.ownsRow 0 e k v n xs ∧ ∀ b, v.ownBlock = some b → B ≤ b :=
  ⟨⟨h.1, h.2.imp id (fun ⟨g, cap, cur, a, b, r⟩ => ⟨g, cap, cur, a, Nat.zero_le _, r⟩)⟩, fun b hb => (h.lt b hb).1⟩
/-- A clone: a row in new memory (or nil). -/
def Cloned (w : World) (e : TypeId) (k n : Nat) (xs : List Value) (en : Ending) (w' : World) : Prop :=
  ∃ v', en = .returned v' ∧ w'.ownsRow 0 e k v' n xs ∧ Chg [] w w' ∧ (∀ b, v'.ownBlock = some b → w.heap.size ≤ b)
/-- A new vector. -/
def NewVec (w : World) (vt e : TypeId) (k n : Nat) (xs : List Value) (en : Ending) (w' : World) : Prop :=
  ∃ p sv, en = .returned (.pointer (some ⟨p, 0, none⟩)) ∧ VecAt w' vt e k p sv n xs ∧ Chg [] w w' ∧ (∀ b ∈ vfoot p sv, w.heap.size ≤ b)
/-- A row that an operation on another row handed back. -/
def RowBack (w : World) (e : TypeId) (k n : Nat) (xs : List Value) (s : Value) (en : Ending) (w' : World) : Prop :=
  ∃ v', en = .returned v' ∧ w'.ownsRow 0 e k v' n xs ∧ Chg s.ownBlock.toList w w' ∧ (∀ b, v'.ownBlock = some b → s.ownBlock = some b ∨ w.heap.size ≤ b)
/-- A vector that was changed, and what was answered. -/
def VecBack (w : World) (vt e : TypeId) (k p n : Nat) (xs : List Value) (sv r : Value) (en : Ending) (w' : World) : Prop :=
  ∃ sv', en = .returned r ∧ VecAt w' vt e k p sv' n xs ∧ Moved w w' p sv sv'

/-- integers as cells. -/
def ints (l : List Int) : List Value := l.map (Value.int .i64)
theorem ints_one (l : List Int) : ∀ u ∈ ints l, u.oneCell' = true := by
  intro u hu
  obtain ⟨n, _, rfl⟩ := List.mem_map.1 hu
  rfl
theorem ints_len (l : List Int) : (ints l).length = l.length := by simp [ints]
theorem ints_get (l : List Int) {k : Nat} (h : k < l.length) : (ints l)[k]? = some (.int .i64 (l[k]?.getD 0)) := by
  simp [ints, h]
theorem ints_append (a b : List Int) : ints (a ++ b) = ints a ++ ints b := by simp [ints]
theorem ints_take (l : List Int) (k : Nat) : ints (l.take k) = (ints l).take k := by simp [ints]
theorem ints_drop (l : List Int) (k : Nat) : ints (l.drop k) = (ints l).drop k := by simp [ints]
theorem ints_set (l : List Int) (k : Nat) (x : Int) : ints (l.set k x) = (ints l).set k (.int .i64 x) := by simp [ints, List.map_set]
theorem ints_inj {a b : List Int} (h : ints a = ints b) : a = b := by
  induction a generalizing b with
  | nil => cases b <;> simp_all [ints]
  | cons x a ih => cases b with
    | nil => simp [ints] at h
    | cons y b =>
      simp only [ints, List.map_cons, List.cons.injEq, Value.int.injEq, true_and] at h
      rw [h.1, ih (by simpa [ints] using h.2)]
/-- A slice that can be read and is not empty: its cells by place. -/
theorem SrcV.cells {w : World} {k : Nat} {v : Value} {n : Nat} {xs : List Value} (h : SrcV w k v n xs) (hn : 0 < n) (hk : 0 < k) :
    ∃ b off c, v = .slice (some ⟨b, off, none⟩) n c ∧ n ≤ c ∧ b < w.heap.size ∧ ∀ j u, xs[j]? = some u → w.cell? ⟨b, off + j, none⟩ = some u := by
  rcases h with ⟨_, rfl, _⟩ | ⟨a, c, rfl, h1, h2, h3, h4⟩
  · omega
  · have hl : 0 < xs.length := by rw [h3]; exact Nat.mul_pos hn hk
    have h0 := h4 0 _ (List.getElem?_eq_getElem hl)
    have hadd : a.add 0 = a := by simp [Addr.add]
    rw [hadd] at h0
    have hs := World.cell?_spot h0
    have hb := World.block_lt_of_cell? w a h0
    obtain ⟨b, off, spot⟩ := a
    obtain rfl : spot = none := hs
    exact ⟨b, off, c, rfl, h1, hb, fun j u hj => by have := h4 j u hj; rwa [Addr.add_lit] at this⟩
theorem SrcV.len {w : World} {k : Nat} {v : Value} {n : Nat} {xs : List Value} (h : SrcV w k v n xs) : xs.length = n * k := by
  rcases h with ⟨_, rfl, rfl⟩ | ⟨a, c, rfl, h1, h2, h3, h4⟩
  · simp
  · exact h3
theorem SrcV.n63 {w : World} {k : Nat} {v : Value} {n : Nat} {xs : List Value} (h : SrcV w k v n xs) : n ≤ 9223372036854775807 := by
  rcases h with ⟨_, rfl, rfl⟩ | ⟨a, c, rfl, h1, h2, h3, h4⟩
  · omega
  · unfold maxLen at h2; omega
/-- A slice literal just laid. -/
theorem srcv_new (w : World) (cs : List Value) (e : TypeId) (n : Nat) (k : Nat) (hn : cs.length = n * k) (hm : n ≤ maxLen) : SrcV (w.alloc (.cells cs.toArray e)) k (.slice (some ⟨w.heap.size, 0, none⟩) n n) n cs := by
  refine .inr ⟨_, _, rfl, Nat.le_refl _, hm, hn, fun j u hj => ?_⟩
  rw [Addr.add_lit, Nat.zero_add]
  exact cell_of_heap (heap_alloc_new w _) (by simpa using hj)
theorem VecAt.alloc {w : World} {vt e : TypeId} {k p : Nat} {sv : Value} {n : Nat} {xs : List Value} (h : VecAt w vt e k p sv n xs) (o : Obj) : VecAt (w.alloc o) vt e k p sv n xs := h.keep ((Chg.refl [] w).alloc o) (by simp) (fun _ _ => by simp)
theorem VecAt.off_new {w : World} {vt e : TypeId} {k p : Nat} {sv : Value} {n : Nat} {xs : List Value} (h : VecAt w vt e k p sv n xs) : sv.ownBlock ≠ some w.heap.size := fun e => Nat.lt_irrefl _ (h.row_lt e)
/-- A vector laid since w0, and nothing older has changed. -/
structure Own (w0 w : World) (vt e : TypeId) (k p : Nat) (sv : Value) (n : Nat) (xs : List Value) : Prop where
  vec : VecAt w vt e k p sv n xs
  chg : Chg [] w0 w
  new : ∀ b ∈ vfoot p sv, w0.heap.size ≤ b
section
variable {w0 w w' : World} {vt e : TypeId} {k p : Nat} {sv sv' : Value} {n n' : Nat} {xs xs' : List Value}
theorem Own.alloc (h : Own w0 w vt e k p sv n xs) (o : Obj) : Own w0 (w.alloc o) vt e k p sv n xs := ⟨h.vec.alloc o, h.chg.alloc o, h.new⟩
theorem Own.quiet (h : Own w0 w vt e k p sv n xs) (g : Chg [] w w') : Own w0 w' vt e k p sv n xs := ⟨h.vec.keep' g (fun _ _ => by simp), h.chg.nil_trans g, h.new⟩
theorem Own.moved (h : Own w0 w vt e k p sv n xs) (hv : VecAt w' vt e k p sv' n' xs') (g : Moved w w' p sv sv') : Own w0 w' vt e k p sv' n' xs' := by
  refine ⟨hv, h.chg.trans g.chg (fun b hb hl => absurd hl (Nat.not_lt.2 (h.new b hb))), ?_⟩
  intro b hb
  simp only [vfoot, List.mem_cons, Option.mem_toList] at hb
  rcases hb with rfl | hb
  · exact h.new _ (by simp [vfoot])
  · rcases g.new b hb with h1 | h1
    · exact h.new b (by simp [vfoot, h1])
    · exact Nat.le_trans h.chg.size h1
theorem Own.of_new {w1 : World} (h0 : Chg [] w0 w) (hv : VecAt w1 vt e k p sv n xs) (hc : Chg [] w w1) (hn : ∀ b ∈ vfoot p sv, w.heap.size ≤ b) : Own w0 w1 vt e k p sv n xs :=
  ⟨hv, h0.nil_trans hc, fun b hb => Nat.le_trans h0.size (hn b hb)⟩
end
end Go.Fol

/-! What copy, slices.overlaps and an append of zeros do to a row that the call owns, whatever the elements' size; what slices.Insert and slices.Delete leave of the cells. No program in sight. -/
namespace Go.Fol
open Go Go.RowKit
set_option linter.unusedVariables false
set_option linter.unusedSimpArgs false

section
variable {P : Program}
/-- copy into a row that lies plain, k cells an element. -/
theorem run_copy_k (w : World) (dT sT ty elem : TypeId) (k g o dLen dCap : Nat) (a : Addr) (sLen sCap : Nat) (cur : Array Value) (t : TypeId) (cs : List Value)
    (hu : P.underlying dT = some (.slice elem)) (hs : (P.info? elem).map (·.size) = some k)
    (hg : w.heap[g]? = some (.cells cur t (0, 0))) (hn : cs.length = Nat.min sLen dLen * k)
    (hsrc : ∀ j v, cs[j]? = some v → w.cell? (a.add j) = some v) (hfit : o + cs.length ≤ cur.size) (h1 : ∀ v ∈ cs, v.oneCell' = true) :
    (Builtin.copy_ #[dT, sT] ty #[.slice (some ⟨g, o, none⟩) dLen dCap, .slice (some a) sLen sCap]).run P w =
      .ok (goInt (Nat.min sLen dLen)) (w.setRow g (splice cur.toList o cs).toArray) := by
  have hl := run_loadCells_list (P := P) w a cs hsrc
  have hst := run_storeCells_at P g o t cs 0 cur w hg (by simpa using hfit) h1
  cases hq : P.info? elem with
  | none => simp [hq] at hs
  | some i =>
    have hi : i.size = k := by simpa [hq] using hs
    rw [hn] at hl
    simp only [Nat.add_zero, List.append_assoc] at hst
    simp [Builtin.copy_, run_underlying hu, Builtin.lenOf, Builtin.firstCells, sizeOf, typeInfo, hq, hi, hl, hst, splice]

/-- slices.overlaps of a slice in one block and a row in another that lies plain: false. -/
theorem run_overlaps_row (w : World) (tS tR e : TypeId) (ht : P.underlying tS = some (.slice e)) (size : Nat) (hz : ∀ w, (Go.sizeOf e).run P w = .ok size w)
    (a b : Addr) (la ca lb cb : Nat) (hne : a.block ≠ b.block) (cA cB : Array Value) (tA tB : TypeId) (fA : Nat × Nat)
    (hsa : w.heap[a.block]? = some (.cells cA tA fA)) (hsb : w.heap[b.block]? = some (.cells cB tB (0, 0))) (hkA : cA.size ≠ 0) :
    (Extern.SlicesOverlaps.overlaps #[tS, tS] #[tR] #[.slice (some a) la ca, .slice (some b) lb cb]).run P w = .ok (.bool false) w := by
  have hnb : (a.block != b.block) = true := by simpa using hne
  have hnb' : (a.block == b.block) = false := by simpa using hne
  have hsha : w.shape? a.block = some (tA, cA.size) := by simp [World.shape?, hsa]
  have hshb : w.shape? b.block = some (tB, cB.size) := by simp [World.shape?, hsb]
  have hfb : ∀ j, w.frozen? { block := b.block, off := j } = false := fun j => by simp [World.frozen?, hsb]
  have hfb' : w.frozen? b = false := by simp [World.frozen?, hsb]
  change Sem.run P (α := Value) (do
    let some t := (#[tS, tS] : Array TypeId)[0]? | stuck "slices.overlaps: no parameter types"
    let .slice elem ← underlying t | stuck "slices.overlaps: slice type expected"
    let size ← sizeOf elem
    match (some a : Option Addr), (some b : Option Addr) with
    | some a, some b =>
      if la = 0 ∨ lb = 0 ∨ size = 0 then pure (Value.bool false)
      else if a.block != b.block && (← frozen a) && (← frozen b) then unsupported .addressObserved
      else do
        if a.block != b.block then do
          noView a; noView b
          if ← mayBeOne a b then return Value.bool ((← choose (.extern "sameAddr.stringBytes" 2)) == 1)
        pure (Value.bool (a.block == b.block && a.off < b.off + lb * size && b.off < a.off + la * size))
    | _, _ => pure (Value.bool false)) w = _
  by_cases h0 : la = 0 ∨ lb = 0 ∨ size = 0
  · simp [run_underlying ht, hz, h0]
  · obtain ⟨nA, hA⟩ : ∃ nA, cA.size = nA + 1 := ⟨cA.size - 1, by omega⟩
    rw [hA] at hsha
    cases hfa : w.frozen? a <;> cases hfe : w.frozen? { block := a.block, off := nA + 1 } <;>
      simp [run_underlying ht, hz, h0, hnb, hnb', frozen, noView, viewAt, mayBeOne, stringish, shape, Sem.run, hsha, hshb, hfa, hfe, hfb, hfb']

/-- The operation 'copy(d, s)', where its run is known. -/
theorem wp_copy_known (w : World) {o : Oper} {a : Act} {K : Act → World → Prop} {Q : Exit → Act → World → Prop} (d s : Operand) (t t' : TypeId)
    (ho : o.op = .call { callee := .builtin .copy, args := #[d, s], argTypes := #[t, t'] }) (v u : Value) (hd : a.eval d = v) (hs : a.eval s = u) {v' : Value} {w' : World}
    (hr : (Builtin.copy_ #[t, t'] o.type #[v, u]).run P w = .ok v' w') (h : K (a.put o.dst v') w') : o.wp P a w K Q := by
  unfold Oper.wp execOp
  simp only [ho, resolve, invoke, builtin, Sem.run_bind, Sem.run_pure, Result.andThen_ok, List.map_toArray, List.map_cons, List.map_nil, hd, hs, hr]
  exact h
theorem wpList_copy_known (w : World) {ops : Array Oper} {rest : List Oper} {o : Oper} {a : Act} {Q : Exit → Act → World → Prop} (hgd : o.guard = none) (d s : Operand) (t t' : TypeId)
    (ho : o.op = .call { callee := .builtin .copy, args := #[d, s], argTypes := #[t, t'] }) (v u : Value) (hd : a.eval d = v) (hs : a.eval s = u) {v' : Value} {w' : World}
    (hr : (Builtin.copy_ #[t, t'] o.type #[v, u]).run P w = .ok v' w') (h : wpList P ops Q rest (a.put o.dst v') w') : wpList P ops Q (o :: rest) a w :=
  wpList_plain hgd fun _ hK => wp_copy_known w d s t t' ho v u hd hs hr (hK _ _ h)
/-- The same as one step of a region that draws its order. -/
theorem step_copy_known {ops : Array Oper} {o : Oper} {a : Act} {w : World} {K : Act → World → Prop} {Q : Exit → Act → World → Prop} {E : Prop}
    (hg : o.guard = none) (d x : Operand) (dT sT : TypeId) (hop : o.op = Op.call { callee := Callee.builtin Builtin.copy, args := #[d, x], argTypes := #[dT, sT] })
    (v u : Value) (hd : a.eval d = v) (hx : a.eval x = u) {v' : Value} {w' : World} (hr : (Builtin.copy_ #[dT, sT] o.type #[v, u]).run P w = .ok v' w') (hK : K (a.put o.dst v') w') :
    if Region.wanted o (yielded ops a.tmps) = true then Oper.wp P o a w K Q else E := by
  have hw : Region.wanted o (yielded ops a.tmps) = true := by simp [Region.wanted, hg]
  rw [if_pos hw]
  unfold Oper.wp
  simp [execOp, hop, resolve, invoke, builtin, hd, hx, hr, Result.andThen]
  exact hK
end

/-! ### the cells -/
theorem splice_take {α : Type} (L : List α) (off : Nat) (cs : List α) (h : off + cs.length ≤ L.length) (n : Nat) (hn : n = off + cs.length) : (splice L off cs).take n = L.take off ++ cs := by
  subst hn
  simp only [splice, ← List.append_assoc]
  rw [List.take_append_of_le_length (by simp; omega), List.take_of_length_le (by simp; omega)]
/-- In place: what stood from i on goes m further, then the new ones are laid. -/
theorem insert_cells {α : Type} (L xs vs : List α) (a b : Nat) (hL : L.take (xs.length) = xs) (hb : b = vs.length) (ha : a ≤ xs.length) (hfit : xs.length + b ≤ L.length) :
    (splice (splice L (a + b) (xs.drop a)) a vs).take (xs.length + b) = xs.take a ++ vs ++ xs.drop a := by
  subst hb
  have hta : L.take a = xs.take a := by rw [← hL, List.take_take]; congr 1; omega
  have hl1 : (splice L (a + vs.length) (xs.drop a)).length = L.length := length_splice _ _ _ (by simp; omega)
  have e1 : (splice L (a + vs.length) (xs.drop a)).take a = xs.take a := by
    rw [splice, List.take_append_of_le_length (by simp; omega), List.take_take, ← hta]; congr 1; omega
  have e2 : (splice L (a + vs.length) (xs.drop a)).drop (a + vs.length) = xs.drop a ++ L.drop (xs.length + vs.length) := by
    rw [splice, List.drop_append_of_le_length (by simp; omega), List.drop_eq_nil_of_le (by simp; omega), List.nil_append]
    congr 2; simp; omega
  rw [splice, e1, e2, ← List.append_assoc, ← List.append_assoc]
  rw [List.take_append_of_le_length (by simp; omega), List.take_of_length_le (by simp; omega)]
/-- In a new row: what stood ahead, the new ones, what stood from i on. -/
theorem insert_cells_new {α : Type} (L xs vs : List α) (a b : Nat) (hL : L.take a = xs.take a) (hb : b = vs.length) (ha : a ≤ xs.length) (hfit : xs.length + b ≤ L.length) :
    (splice (splice L a vs) (a + b) (xs.drop a)).take (xs.length + b) = xs.take a ++ vs ++ xs.drop a := by
  subst hb
  have e1 : (splice L a vs).take (a + vs.length) = xs.take a ++ vs := by rw [splice_take _ _ _ (by omega) _ rfl, hL]
  have hl1 : (splice L a vs).length = L.length := length_splice _ _ _ (by omega)
  have hl2 : ((splice L a vs).take (a + vs.length)).length = a + vs.length := by rw [List.length_take, hl1]; omega
  rw [splice, ← List.append_assoc, List.take_append_of_le_length (by rw [List.length_append, hl2]; simp; omega), List.take_of_length_le (by rw [List.length_append, hl2]; simp; omega), e1]

/-- A row that was written over its whole block: what it owns now. -/
theorem row_setRow {w : World} {e : TypeId} {k g n cap : Nat} {cur : List Value} {c0 : Array Value} {xs : List Value} (hg : w.heap[g]? = some (.cells c0 e (0, 0))) (hn : n ≤ cap) (hc : cap ≤ maxLen) (hl : cur.length = cap * k) (hx : cur.take (n * k) = xs) :
    (w.setRow g cur.toArray).ownsRow 0 e k (.slice (some ⟨g, 0, none⟩) n cap) n xs := by
  refine ⟨?_, .inr ⟨g, cap, _, rfl, Nat.zero_le _, setRow_heap w g _ _ e _ hg, hn, hc, by simpa using hl, by simpa using hx⟩⟩
  rw [← hx, List.length_take, hl]
  exact Nat.min_eq_left (Nat.mul_le_mul_right k hn)
theorem Chg.setRow {S : List Nat} {a w : World} (h : Chg S a w) {g : Nat} (hg : g < a.heap.size → g ∈ S) (cs : Array Value) : Chg S a (w.setRow g cs) :=
  ⟨h.os, h.tape, h.output, by simpa using h.size, fun k hk hn => (setRow_other w g k cs (fun e => hn (e ▸ hg (e ▸ hk)))).trans (h.block k hk hn)⟩
theorem setRow_drew (w : World) (g : Nat) (cs : Array Value) : (w.setRow g cs).drew = w.drew.setRow g cs := rfl
/-! ### append to a row that the call owns: where it lies behind -/
section
variable {P : Program}
theorem run_append_row (w : World) (t ty e : TypeId) (i : TypeInfo) (z : Value) (k bytes : Nat) (ht : P.underlying t = some (.slice e)) (hi : P.info? e = some i) (hz : i.zero = some z)
    (hsize : i.size = k) (hby : i.bytes = bytes) (hzs : z.cells.size = k) (hsz : 0 < k)
    (s : Value) (n : Nat) (xs : List Value) (hs : w.ownsRow 0 e k s n xs)
    (a : Addr) (m c : Nat) (vs : List Value) (hl : vs.length = m * k) (hvs : ∀ j u, vs[j]? = some u → w.cell? (a.add j) = some u) (h1 : ∀ u ∈ vs, u.oneCell' = true)
    (h63 : n + m ≤ maxLen) (hbytes : (n + m) * bytes ≤ 140737488355328) :
    ∃ v' w', (Builtin.append_ #[t, t] ty #[s, .slice (some a) m c]).run P w = .ok v' w' ∧ w'.ownsRow 0 e k v' (n + m) (xs ++ vs) ∧ Chg s.ownBlock.toList w w' ∧
      (∀ b, v'.ownBlock = some b → s.ownBlock = some b ∨ w.heap.size ≤ b) := by
  obtain ⟨v', w', hr, hown, hgr, _⟩ := run_append_own (P := P) w 0 t ty e i z k bytes ht hi hz hsize hby hzs hsz s n xs hs a m c vs hl hvs h1 h63 hbytes (Nat.zero_le _)
  refine ⟨v', w', hr, hown, (Chg.refl _ w).grown hgr (fun k hk _ => by simp [hk]), ?_⟩
  intro b hb
  by_cases hroom : ∃ g cap, s = .slice (some ⟨g, 0, none⟩) n cap ∧ n + m ≤ cap
  · obtain ⟨g, cap, rfl, hroom⟩ := hroom
    rcases row_form hs with ⟨h, _⟩ | ⟨g', cap', cur, h, hg, hnc, hcm, hcs, _⟩
    · cases h
    · cases h
      have := run_append_room (P := P) w t ty e i ht hi g n cap cur hg a m c vs (by rw [hsize]; exact hl) hvs h1 hroom (by rw [hsize, hl, hcs, ← Nat.add_mul]; exact Nat.mul_le_mul_right _ hroom)
      rw [this] at hr
      cases hr
      exact .inl hb
  · right
    rcases row_form hs with ⟨rfl, rfl, rfl⟩ | ⟨g, cap, cur, rfl, hg, hnc, hcm, hcs, htk, hxl⟩
    · by_cases hm : m = 0
      · subst hm
        obtain ⟨v2, w2, hr2, hown2, _, hnil⟩ := run_append_own (P := P) w w.heap.size t ty e i z k bytes ht hi hz hsize hby hzs hsz (.slice none 0 0) 0 [] (World.ownsRow_nil _ _ _ _) a 0 c vs hl hvs h1 h63 hbytes (Nat.le_refl _)
        rw [hr2] at hr
        cases hr
        exact (row_base hown2).2 b hb
      · obtain ⟨v2, w2, hr2, hown2, _, hnil⟩ := run_append_own (P := P) w w.heap.size t ty e i z k bytes ht hi hz hsize hby hzs hsz (.slice none 0 0) 0 [] (World.ownsRow_nil _ _ _ _) a m c vs hl hvs h1 h63 hbytes (Nat.le_refl _)
        rw [hr2] at hr
        cases hr
        exact (row_base hown2).2 b hb
    · have hgrow : cap < n + m := by
        by_cases h : n + m ≤ cap
        · exact absurd ⟨g, cap, rfl, h⟩ hroom
        · omega
      have h63' : n + m ≤ 9223372036854775807 := by simp only [maxLen] at h63; omega
      have := run_append_grow (P := P) w t ty e i z ht hi hz ⟨g, 0, none⟩ n cap xs (by rw [hsize]; exact hxl) (hs.cells (g := g) rfl) a m c vs (by rw [hsize]; exact hl) hvs (by omega) (by omega) (by rw [hby]; exact growslice_fits (by omega) hbytes)
      rw [this] at hr
      cases hr
      cases hb
      exact Nat.le_refl _

theorem wpList_append_row {w : World} {ops : Array Oper} {rest : List Oper} {o : Oper} {a : Act} {Q : Exit → Act → World → Prop} (hgd : o.guard = none) (s x : Operand) (t : TypeId)
    (ho : o.op = .call { callee := .builtin .append, args := #[s, x], argTypes := #[t, t] }) (e : TypeId) (i : TypeInfo) (z : Value) (k bytes : Nat) (ht : P.underlying t = some (.slice e)) (hi : P.info? e = some i) (hz : i.zero = some z)
    (hsize : i.size = k) (hby : i.bytes = bytes) (hzs : z.cells.size = k) (hsz : 0 < k)
    (sv : Value) (n : Nat) (xs : List Value) (hsv : a.eval s = sv) (hs : w.ownsRow 0 e k sv n xs)
    (ad : Addr) (m c : Nat) (vs : List Value) (hx : a.eval x = .slice (some ad) m c) (hl : vs.length = m * k) (hvs : ∀ j u, vs[j]? = some u → w.cell? (ad.add j) = some u) (h1 : ∀ u ∈ vs, u.oneCell' = true)
    (h63 : n + m ≤ maxLen) (hbytes : (n + m) * bytes ≤ 140737488355328)
    (h : ∀ v' w', w'.ownsRow 0 e k v' (n + m) (xs ++ vs) → Chg sv.ownBlock.toList w w' → (∀ b, v'.ownBlock = some b → sv.ownBlock = some b ∨ w.heap.size ≤ b) → wpList P ops Q rest (a.put o.dst v') w') : wpList P ops Q (o :: rest) a w := by
  obtain ⟨v', w', hr, h2, h3, h4⟩ := run_append_row (P := P) w t o.type e i z k bytes ht hi hz hsize hby hzs hsz sv n xs hs ad m c vs hl hvs h1 h63 hbytes
  exact Lib.wpList_append_run w hgd s x t t ho sv _ hsv hx v' w' hr (h v' w' h2 h3 h4)
end
/-! ### append and clear within a row -/
section
variable {P : Program}
theorem step_append_known {ops : Array Oper} {o : Oper} {a : Act} {w : World} {K : Act → World → Prop} {Q : Exit → Act → World → Prop} {E : Prop}
    (hg : o.guard = none) (d x : Operand) (dT sT : TypeId) (hop : o.op = Op.call { callee := Callee.builtin Builtin.append, args := #[d, x], argTypes := #[dT, sT] })
    (v u : Value) (hd : a.eval d = v) (hx : a.eval x = u) {v' : Value} {w' : World} (hr : (Builtin.append_ #[dT, sT] o.type #[v, u]).run P w = .ok v' w') (hK : K (a.put o.dst v') w') :
    if Region.wanted o (yielded ops a.tmps) = true then Oper.wp P o a w K Q else E := by
  have hw : Region.wanted o (yielded ops a.tmps) = true := by simp [Region.wanted, hg]
  rw [if_pos hw]
  unfold Oper.wp execOp
  simp only [hop, resolve, invoke, builtin, Sem.run_bind, Sem.run_pure, Result.andThen_ok, List.map_toArray, List.map_cons, List.map_nil, hd, hx, hr]
  exact hK
theorem run_clear_k (w : World) (t ty elem : TypeId) (k g o n c : Nat) (z : Value) (cur : Array Value) (tt : TypeId)
    (hu : P.underlying t = some (.slice elem)) (hv : ∀ w, (zeroValue elem).run P w = .ok z w) (hzs : z.cells.size = k) (h1 : ∀ u ∈ z.cells.toList, u.oneCell' = true)
    (hg : w.heap[g]? = some (.cells cur tt (0, 0))) (hfit : o + n * k ≤ cur.size) (hn : 0 < n) :
    (Builtin.clear_ #[t] ty #[.slice (some ⟨g, o, none⟩) n c]).run P w = .ok (.tuple #[]) (w.setRow g (splice cur.toList o (Builtin.zeroCells z.cells n).toList).toArray) := by
  have hm : ∀ u ∈ (Builtin.zeroCells z.cells n).toList, u.oneCell' = true := by
    intro u hu
    simp only [Builtin.zeroCells] at hu
    simp at hu
    obtain ⟨j, hj, hu⟩ := hu
    have hpos : 0 < z.cells.size := by
      rcases Nat.eq_zero_or_pos z.cells.size with h | h
      · rw [h, Nat.mul_zero] at hj; omega
      · exact h
    have hlt := Nat.mod_lt j hpos
    rw [getElem!_pos z.cells _ hlt] at hu
    exact h1 _ (by rw [← hu]; simp)
  have hst := run_storeCells_at P g o tt (Builtin.zeroCells z.cells n).toList 0 cur w hg (by simp [size_zeroCells, hzs]; exact hfit) hm
  simp only [Nat.add_zero, List.append_assoc] at hst
  obtain ⟨n', rfl⟩ : ∃ n', n = n' + 1 := ⟨n - 1, by omega⟩
  simp [Builtin.clear_, run_underlying hu, hv, hst, splice]
end
theorem delete_cells {α : Type} (L xs zs : List α) (a b c : Nat) (hL : L.take xs.length = xs) (hab : a ≤ b) (hb : b ≤ xs.length) (hc : c = a + (xs.length - b)) (hz : c + zs.length ≤ L.length) :
    (splice (splice L a (xs.drop b)) c zs).take c = xs.take a ++ xs.drop b := by
  have hxl : xs.length ≤ L.length := by rw [← hL, List.length_take]; omega
  have hta : L.take a = xs.take a := by rw [← hL, List.take_take]; congr 1; omega
  have hl1 : (splice L a (xs.drop b)).length = L.length := length_splice _ _ _ (by simp; omega)
  rw [splice, List.take_append_of_le_length (by rw [List.length_take, hl1]; omega), List.take_take, Nat.min_self, splice_take _ _ _ (by simp; omega) _ (by simp; omega), hta]
end Go.Fol

/-! Arguments that are lists of one-cell elements; sources cut out of sources; append of any source; two vectors beside each other. No program in sight. -/
namespace Go.Fol
open Go Go.RowKit
set_option linter.unusedVariables false
set_option linter.unusedSimpArgs false
variable {P : Program}

/-- The elements of a slice argument, one cell each. -/
theorem src_of_row {w : World} {t e : TypeId} {v : Value} (ht : P.underlying t = some (.slice e)) (hk : P.cellsOf e = 1) (h : Arg P w t v) :
    ∃ n xs, SrcV w 1 v n xs ∧ n * P.bytesOf e ≤ 140737488351232 ∧ ∀ x ∈ xs, Rd P w e [x] := by
  obtain ⟨a, n, c, rfl, h1, h2, h3, h4, h5⟩ := arg_slice ht hk (by decide) h
  have h4' : n * P.bytesOf e ≤ 140737488351232 := Nat.le_trans (Nat.mul_le_mul_right _ h2) h4
  cases a with
  | none =>
    obtain ⟨rfl, rfl⟩ := h1 rfl
    exact ⟨0, [], .inl ⟨rfl, rfl, rfl⟩, by simp, by simp⟩
  | some a =>
    by_cases hn : 0 < n
    · obtain ⟨b, off, rfl', hb, hel⟩ := h5 hn
      cases rfl'
      have hex : ∀ m, m ≤ n → ∃ xs : List Value, xs.length = m ∧ (∀ j u, xs[j]? = some u → w.cell? ⟨b, off + j, none⟩ = some u) ∧ ∀ x ∈ xs, Rd P w e [x] := by
        intro m
        induction m with
        | zero => exact fun _ => ⟨[], rfl, by simp, by simp⟩
        | succ m ih =>
          intro hm
          obtain ⟨xs, hl, hc, hr⟩ := ih (by omega)
          obtain ⟨es, he, hrd, hce⟩ := hel m (by omega)
          obtain ⟨x, rfl⟩ : ∃ x, es = [x] := by
            match es, he with
            | [x], _ => exact ⟨x, rfl⟩
          refine ⟨xs ++ [x], by simp [hl], fun j u hj => ?_, fun y hy => ?_⟩
          · by_cases hjm : j < m
            · rw [List.getElem?_append_left (by omega)] at hj
              exact hc j u hj
            · have hjl := (List.getElem?_eq_some_iff.1 hj).1
              simp [hl] at hjl
              obtain rfl : j = m := by omega
              rw [List.getElem?_append_right (by omega), hl] at hj
              simp at hj
              subst hj
              have := hce 0 _ rfl
              simpa using this
          · rcases List.mem_append.1 hy with h | h
            · exact hr y h
            · simp at h; subst h; exact hrd
      obtain ⟨xs, hl, hc, hr⟩ := hex n (Nat.le_refl _)
      exact ⟨n, xs, .inr ⟨_, _, rfl, h2, h3, by simp [hl], fun j u hj => by rw [Addr.add_lit]; exact hc j u hj⟩, h4', hr⟩
    · obtain rfl : n = 0 := by omega
      exact ⟨0, [], .inr ⟨_, _, rfl, h2, h3, rfl, by simp⟩, by simp, by simp⟩

/-- A slice argument of integers. -/
theorem arg_ints {w : World} {t e : TypeId} {v : Value} (ht : P.underlying t = some (.slice e)) (he : P.underlying e = some (.int .i64)) (hk : P.cellsOf e = 1) (hb : P.bytesOf e = 8) (h : Arg P w t v) :
    ∃ l : List Int, SrcV w 1 v l.length (ints l) ∧ l.length * 8 ≤ 140737488351232 ∧ ∀ x ∈ l, (Lit.int .i64 x).wf = true := by
  obtain ⟨n, xs, hs, hn, hr⟩ := src_of_row ht hk h
  have hex : ∀ ys : List Value, (∀ x ∈ ys, Rd P w e [x]) → ∃ l : List Int, ys = ints l ∧ ∀ x ∈ l, (Lit.int .i64 x).wf = true := by
    intro ys
    induction ys with
    | nil => exact fun _ => ⟨[], rfl, by simp⟩
    | cons y ys ih =>
      intro hy
      obtain ⟨l, rfl, hl⟩ := ih (fun x hx => hy x (List.mem_cons_of_mem _ hx))
      obtain ⟨m, hm, hw⟩ := rd_int he (hy y (List.mem_cons_self ..))
      simp at hm
      subst hm
      exact ⟨m :: l, rfl, by simpa using ⟨hw, hl⟩⟩
  obtain ⟨l, rfl, hl⟩ := hex xs hr
  have := hs.len
  simp [ints_len] at this
  subst this
  exact ⟨l, hs, by rw [hb] at hn; exact hn, hl⟩

/-- integers of a kind as cells. -/
def kints (k : IntKind) (l : List Int) : List Value := l.map (Value.int k)
theorem kints_one (k : IntKind) (l : List Int) : ∀ u ∈ kints k l, u.oneCell' = true := by
  intro u hu
  obtain ⟨n, _, rfl⟩ := List.mem_map.1 hu
  rfl
theorem kints_len (k : IntKind) (l : List Int) : (kints k l).length = l.length := by simp [kints]
theorem kints_get (k : IntKind) (l : List Int) {i : Nat} (h : i < l.length) : (kints k l)[i]? = some (.int k (l[i]?.getD 0)) := by simp [kints, h]
theorem kints_append (k : IntKind) (a b : List Int) : kints k (a ++ b) = kints k a ++ kints k b := by simp [kints]
theorem kints_take (k : IntKind) (l : List Int) (n : Nat) : kints k (l.take n) = (kints k l).take n := by simp [kints]
theorem kints_drop (k : IntKind) (l : List Int) (n : Nat) : kints k (l.drop n) = (kints k l).drop n := by simp [kints]
/-- A slice argument of integers of a kind. -/
theorem arg_kind {w : World} {t e : TypeId} {v : Value} {kd : IntKind} (ht : P.underlying t = some (.slice e)) (he : P.underlying e = some (.int kd)) (hk : P.cellsOf e = 1) {B : Nat} (hb : P.bytesOf e = B) (h : Arg P w t v) :
    ∃ l : List Int, SrcV w 1 v l.length (kints kd l) ∧ l.length * B ≤ 140737488351232 ∧ ∀ x ∈ l, (Lit.int kd x).wf = true := by
  obtain ⟨n, xs, hs, hn, hr⟩ := src_of_row ht hk h
  have hex : ∀ ys : List Value, (∀ x ∈ ys, Rd P w e [x]) → ∃ l : List Int, ys = kints kd l ∧ ∀ x ∈ l, (Lit.int kd x).wf = true := by
    intro ys
    induction ys with
    | nil => exact fun _ => ⟨[], rfl, by simp⟩
    | cons y ys ih =>
      intro hy
      obtain ⟨l, rfl, hl⟩ := ih (fun x hx => hy x (List.mem_cons_of_mem _ hx))
      obtain ⟨m, hm, hw⟩ := rd_int he (hy y (List.mem_cons_self ..))
      simp at hm
      subst hm
      exact ⟨m :: l, rfl, by simpa using ⟨hw, hl⟩⟩
  obtain ⟨l, rfl, hl⟩ := hex xs hr
  have := hs.len
  simp [kints_len] at this
  subst this
  exact ⟨l, hs, by rw [hb] at hn; exact hn, hl⟩
theorem wf_u8 {x : Int} (h : (Lit.int .u8 x).wf = true) : 0 ≤ x ∧ x ≤ 255 := by simpa [Lit.wf, IntKind.min, IntKind.max, IntKind.signed, IntKind.bits] using h
theorem wf_i64 {x : Int} (h : (Lit.int .i64 x).wf = true) : -9223372036854775808 ≤ x ∧ x ≤ 9223372036854775807 := by simpa [Lit.wf, IntKind.min, IntKind.max, IntKind.signed, IntKind.bits] using h

/-- strings as cells. -/
def strs (l : List ByteArray) : List Value := l.map Value.string
theorem strs_one (l : List ByteArray) : ∀ u ∈ strs l, u.oneCell' = true := by
  intro u hu
  obtain ⟨n, _, rfl⟩ := List.mem_map.1 hu
  rfl
theorem strs_len (l : List ByteArray) : (strs l).length = l.length := by simp [strs]
theorem strs_get (l : List ByteArray) {k : Nat} (h : k < l.length) : (strs l)[k]? = some (.string (l[k]?.getD ⟨#[]⟩)) := by
  simp [strs, h]
theorem strs_append (a b : List ByteArray) : strs (a ++ b) = strs a ++ strs b := by simp [strs]
theorem strs_take (l : List ByteArray) (k : Nat) : strs (l.take k) = (strs l).take k := by simp [strs]
theorem strs_drop (l : List ByteArray) (k : Nat) : strs (l.drop k) = (strs l).drop k := by simp [strs]
theorem strs_set (l : List ByteArray) (k : Nat) (x : ByteArray) : strs (l.set k x) = (strs l).set k (.string x) := by simp [strs, List.map_set]
/-- A slice argument of strings. -/
theorem arg_strs {w : World} {t e : TypeId} {v : Value} (ht : P.underlying t = some (.slice e)) (he : P.underlying e = some .string) (hk : P.cellsOf e = 1) (hb : P.bytesOf e = 16) (h : Arg P w t v) :
    ∃ l : List ByteArray, SrcV w 1 v l.length (strs l) ∧ l.length * 16 ≤ 140737488351232 ∧ ∀ x ∈ l, x.size ≤ 140737488351232 := by
  obtain ⟨n, xs, hs, hn, hr⟩ := src_of_row ht hk h
  have hex : ∀ ys : List Value, (∀ x ∈ ys, Rd P w e [x]) → ∃ l : List ByteArray, ys = strs l ∧ ∀ x ∈ l, x.size ≤ 140737488351232 := by
    intro ys
    induction ys with
    | nil => exact fun _ => ⟨[], rfl, by simp⟩
    | cons y ys ih =>
      intro hy
      obtain ⟨l, rfl, hl⟩ := ih (fun x hx => hy x (List.mem_cons_of_mem _ hx))
      obtain ⟨m, hm, hw⟩ := rd_string he (hy y (List.mem_cons_self ..))
      simp at hm
      subst hm
      exact ⟨m :: l, rfl, by simpa using ⟨hw, hl⟩⟩
  obtain ⟨l, rfl, hl⟩ := hex xs hr
  have := hs.len
  simp [strs_len] at this
  subst this
  exact ⟨l, hs, by rw [hb] at hn; exact hn, hl⟩

/-- A source, cut. -/
theorem SrcV.sliced {w : World} {k : Nat} {a : Option Addr} {n c : Nat} {xs : List Value} (h : SrcV w k (.slice a n c) n xs) {i j : Nat} (hij : i ≤ j) (hj : j ≤ n) (hk : 0 < k) :
    SrcV w k (sliced a i j c k) (j - i) ((xs.drop (i * k)).take ((j - i) * k)) := by
  have hlen := h.len
  have hm1 : i * k ≤ j * k := Nat.mul_le_mul_right _ hij
  have hm2 : j * k ≤ n * k := Nat.mul_le_mul_right _ hj
  have hm3 : (j - i) * k = j * k - i * k := Nat.sub_mul _ _ _
  rcases h with ⟨h1, rfl, rfl⟩ | ⟨a', c', h1, h2, h3, h4, h5⟩
  · cases h1
    obtain rfl : j = 0 := by omega
    obtain rfl : i = 0 := by omega
    exact .inl ⟨by simp [Go.sliced], rfl, by simp⟩
  · cases h1
    refine .inr ⟨if c = i then a' else a'.add (i * k), c - i, ?_, by omega, by unfold maxLen at *; omega, by rw [List.length_take, List.length_drop]; omega, fun q u hq => ?_⟩
    · unfold Go.sliced
      split <;> simp
    · have hql := (List.getElem?_eq_some_iff.1 hq).1
      rw [List.length_take, List.length_drop] at hql
      have hci : ¬ (c = i) := by
        intro e
        subst e
        have : j = c := by omega
        subst this
        omega
      rw [if_neg hci]
      rw [List.getElem?_take_of_lt (by omega), List.getElem?_drop] at hq
      have h0 := h5 0 _ (List.getElem?_eq_getElem (by omega))
      have hadd : a'.add 0 = a' := by simp [Addr.add]
      rw [hadd] at h0
      have hs := World.cell?_spot h0
      obtain ⟨b, off, spot⟩ := a'
      obtain rfl : spot = none := hs
      have := h5 _ u hq
      rw [Addr.add_lit] at this ⊢
      rw [Addr.add_lit]
      rw [Nat.add_assoc]
      exact this

theorem SrcV.lt {w : World} {k : Nat} {v : Value} {n : Nat} {xs : List Value} (h : SrcV w k v n xs) (hn : 0 < n) (hk : 0 < k) {b : Nat} (hb : v.ownBlock = some b) : b < w.heap.size := by
  obtain ⟨b', off, c, rfl, _, h2, _⟩ := h.cells hn hk
  cases hb
  exact h2
theorem SrcV.keep_if {S : List Nat} {w w' : World} {k : Nat} {v : Value} {n : Nat} {xs : List Value} (h : SrcV w k v n xs) (g : Chg S w w') (hn : 0 < n → ∀ b, v.ownBlock = some b → b ∉ S) : SrcV w' k v n xs := by
  by_cases h0 : 0 < n
  · exact h.keep g (hn h0)
  · obtain rfl : n = 0 := by omega
    rcases h with h | ⟨a, c, rfl, h1, h2, h3, h4⟩
    · exact .inl h
    · have : xs = [] := List.eq_nil_of_length_eq_zero (by simpa using h3)
      subst this
      exact .inr ⟨a, c, rfl, h1, h2, h3, by simp⟩
/-- An old source, when only what is newer than w0 has changed. -/
theorem Own.src {w0 w : World} {vt e : TypeId} {k p : Nat} {sv : Value} {n : Nat} {xs : List Value} (h : Own w0 w vt e k p sv n xs) {k' : Nat} {v : Value} {m : Nat} {ys : List Value} (hv : SrcV w0 k' v m ys) : SrcV w k' v m ys := hv.keep h.chg (by simp)
/-- An old source is not the vector's row. -/
theorem Own.off_src {w0 w : World} {vt e : TypeId} {k p : Nat} {sv : Value} {n : Nat} {xs : List Value} (h : Own w0 w vt e k p sv n xs) {k' : Nat} {v : Value} {m : Nat} {ys : List Value} (hv : SrcV w0 k' v m ys) (hk : 0 < k') :
    0 < m → ∀ b, v.ownBlock = some b → sv.ownBlock ≠ some b := fun hm b hb hs => Nat.lt_irrefl _ (Nat.lt_of_lt_of_le (hv.lt hm hk hb) (h.new b (by simp [vfoot, hs])))

/-- append of any source. -/
theorem run_append_src (w : World) (t ty e : TypeId) (i : TypeInfo) (z : Value) (k bytes : Nat) (ht : P.underlying t = some (.slice e)) (hi : P.info? e = some i) (hz : i.zero = some z)
    (hsize : i.size = k) (hby : i.bytes = bytes) (hzs : z.cells.size = k) (hsz : 0 < k)
    (s : Value) (n : Nat) (xs : List Value) (hs : w.ownsRow 0 e k s n xs)
    (x : Value) (m : Nat) (vs : List Value) (hv : SrcV w k x m vs) (h1 : ∀ u ∈ vs, u.oneCell' = true)
    (h63 : n + m ≤ maxLen) (hbytes : (n + m) * bytes ≤ 140737488355328) :
    ∃ v' w', (Builtin.append_ #[t, t] ty #[s, x]).run P w = .ok v' w' ∧ w'.ownsRow 0 e k v' (n + m) (xs ++ vs) ∧ Chg s.ownBlock.toList w w' ∧
      (∀ b, v'.ownBlock = some b → s.ownBlock = some b ∨ w.heap.size ≤ b) := by
  rcases hv with ⟨rfl, rfl, rfl⟩ | ⟨a, c, rfl, h2, h3, h4, h5⟩
  · refine ⟨s, w, ?_, by simpa using hs, Chg.refl _ _, fun b hb => .inl hb⟩
    rcases row_form hs with ⟨rfl, rfl, _⟩ | ⟨g, cap, cur, rfl, hg, hnc, hcm, hcs, htk, hxl⟩
    · simp [Builtin.append_, run_underlying ht, sizeOf, typeInfo, hi, Builtin.lenOf, Builtin.firstCells]
    · simp [Builtin.append_, run_underlying ht, sizeOf, typeInfo, hi, Builtin.lenOf, Builtin.firstCells, hnc, storeCells]
  · exact run_append_row w t ty e i z k bytes ht hi hz hsize hby hzs hsz s n xs hs a m c vs h4 h5 h1 h63 hbytes

/-- A vector beside one that moved. -/
theorem Own.other {w0 w w' : World} {vt e vt' e' : TypeId} {k k' p q : Nat} {sv sv' tv : Value} {n m : Nat} {xs ys : List Value}
    (h : Own w0 w vt e k p sv n xs) (g : Own w0 w vt' e' k' q tv m ys) (hm : Moved w w' p sv sv') (hd : ∀ b ∈ vfoot p sv, b ∉ vfoot q tv) :
    Own w0 w' vt' e' k' q tv m ys ∧ ∀ b ∈ vfoot p sv', b ∉ vfoot q tv :=
  ⟨⟨g.vec.keep' hm.chg (fun b hb hc => hd b hc hb), h.chg.trans hm.chg (fun b hb hl => absurd hl (Nat.not_lt.2 (h.new b hb))), g.new⟩, hm.off g.vec.foot_lt hd⟩
end Go.Fol

/-! The chains of appends that lay a list anew with items put in (or taken out), one-cell elements. No program in sight. -/
namespace Go.Fol
open Go Go.RowKit
set_option linter.unusedVariables false
set_option linter.unusedSimpArgs false
variable {P : Program}

theorem SrcV.cap {w : World} {k : Nat} {a : Option Addr} {n c : Nat} {xs : List Value} (h : SrcV w k (.slice a n c) n xs) : n ≤ c := by
  rcases h with ⟨h, h2, _⟩ | ⟨a, c, h, h2, _⟩ <;> cases h <;> omega
theorem SrcV.pre {w : World} {a : Option Addr} {n c : Nat} {xs : List Value} (h : SrcV w 1 (.slice a n c) n xs) {q : Nat} (hq : q ≤ n) : SrcV w 1 (.slice a q c) q (xs.take q) := by
  have := h.sliced (i := 0) (j := q) (by omega) hq (by decide)
  have e : Go.sliced a 0 q c 1 = .slice a q c := by
    unfold Go.sliced
    cases a <;> simp [Addr.add]
  rw [e] at this
  simpa using this
theorem SrcV.post {w : World} {a : Option Addr} {n c : Nat} {xs : List Value} (h : SrcV w 1 (.slice a n c) n xs) {q : Nat} (hq : q ≤ n) {a2 : Option Addr} (ha : (if c = q then a else Option.map (fun x => x.add q) a) = a2) :
    SrcV w 1 (.slice a2 (n - q) (c - q)) (n - q) (xs.drop q) := by
  have := h.sliced (i := q) (j := n) hq (Nat.le_refl _) (by decide)
  rw [List.take_of_length_le (by have := h.len; rw [List.length_drop]; omega)] at this
  have e : Go.sliced a q n c 1 = .slice a2 (n - q) (c - q) := by
    unfold Go.sliced
    rw [← ha, Nat.mul_one]
  rw [e] at this
  simpa using this

/-- append(nil, s...). -/
theorem app_one (W : World) (t e : TypeId) (i : TypeInfo) (z : Value) (bytes : Nat) (ht : P.underlying t = some (.slice e)) (hi : P.info? e = some i) (hz : i.zero = some z) (hz1 : i.size = 1) (hz2 : i.bytes = bytes) (hzs : z.cells.size = 1)
    (s : Value) (n : Nat) (xs : List Value) (hs : SrcV W 1 s n xs) (h1 : ∀ u ∈ xs, u.oneCell' = true) (hm : n ≤ maxLen) (hb : n * bytes ≤ 140737488355328) :
    ∃ v' w', (∀ ty, (Builtin.append_ #[t, t] ty #[.slice none 0 0, s]).run P W = .ok v' w') ∧ w'.ownsRow 0 e 1 v' n xs ∧ Chg [] W w' ∧ (∀ b, v'.ownBlock = some b → W.heap.size ≤ b) := by
  have h := fun ty => run_append_src (P := P) W t ty e i z 1 bytes ht hi hz hz1 hz2 hzs (by decide) (.slice none 0 0) 0 [] (World.ownsRow_nil _ _ _ _) s n xs hs h1 (by omega) (by simpa using hb)
  obtain ⟨v', w', h1, h2, h3, h4⟩ := h 0
  refine ⟨v', w', fun ty => ?_, by simpa using h2, h3, fun b hb => (h4 b hb).resolve_left (fun e => by cases e)⟩
  rw [← h1]
  rfl
/-- append(own, s...) where 'own' was laid since W0. -/
theorem app_more (W0 W : World) (t e : TypeId) (i : TypeInfo) (z : Value) (bytes : Nat) (ht : P.underlying t = some (.slice e)) (hi : P.info? e = some i) (hz : i.zero = some z) (hz1 : i.size = 1) (hz2 : i.bytes = bytes) (hzs : z.cells.size = 1)
    (o : Value) (m : Nat) (ys : List Value) (ho : W.ownsRow 0 e 1 o m ys) (hc : Chg [] W0 W) (hn : ∀ b, o.ownBlock = some b → W0.heap.size ≤ b)
    (s : Value) (n : Nat) (xs : List Value) (hs : SrcV W0 1 s n xs) (h1 : ∀ u ∈ xs, u.oneCell' = true) (hm : m + n ≤ maxLen) (hb : (m + n) * bytes ≤ 140737488355328) :
    ∃ v' w', (∀ ty, (Builtin.append_ #[t, t] ty #[o, s]).run P W = .ok v' w') ∧ w'.ownsRow 0 e 1 v' (m + n) (ys ++ xs) ∧ Chg [] W0 w' ∧ (∀ b, v'.ownBlock = some b → W0.heap.size ≤ b) := by
  have h := fun ty => run_append_src (P := P) W t ty e i z 1 bytes ht hi hz hz1 hz2 hzs (by decide) o m ys ho s n xs (hs.keep hc (fun _ _ => by simp)) h1 hm hb
  obtain ⟨v', w', h1, h2, h3, h4⟩ := h 0
  refine ⟨v', w', fun ty => ?_, h2, hc.trans h3 (fun b hb hl => by simp at hb; exact absurd hl (Nat.not_lt.2 (hn b hb))), fun b hb => (h4 b hb).elim (hn b) (fun h => Nat.le_trans hc.size h)⟩
  rw [← h1]
  rfl
end Go.Fol

/-! Ranging over a list by a function value (slices.All, slices.Backward over a clone): an iterator's word, one law at the plain walk, and how a function that ranges so leaves. No program in sight. -/
namespace Go.Fol
open Go Go.RowKit
set_option linter.unusedVariables false
set_option linter.unusedSimpArgs false

/-- the iterator's own blocks lie as they lay. -/
def KeepB (S : List Nat) (W W' : World) : Prop := ∀ c ∈ S, W'.heap[c]? = W.heap[c]?
theorem keepB_t {S : List Nat} {A B C : World} (h : KeepB S A B) (k : KeepB S B C) : KeepB S A C := fun c hc => (k c hc).trans (h c hc)
theorem Chg.keepB {S T : List Nat} {W W' : World} (h : Chg T W W') (hS : ∀ c ∈ S, c < W.heap.size ∧ c ∉ T) : KeepB S W W' := fun c hc => h.block c (hS c hc).1 (hS c hc).2

/-- Nothing but new blocks, and blocks from B on that are no cells. -/
def Quiet (B : Nat) (W W' : World) : Prop := ∃ T, Chg T W W' ∧ ∀ r ∈ T, B ≤ r ∧ ∃ o : Obj, W.heap[r]? = some o ∧ o.isCells = false
theorem Quiet.of_nil {B : Nat} {W W' : World} (h : Chg [] W W') : Quiet B W W' := ⟨[], h, fun _ h => by cases h⟩
theorem chg_putObj (W : World) (l : Nat) (o : Obj) : Chg [l] W (W.putObj l o) := ⟨rfl, rfl, rfl, by simp, fun k _ hk => World.putObj_heap_other (fun e => hk (by simp [e]))⟩
theorem Quiet.putObj {B l : Nat} {W : World} {o : Obj} (o' : Obj) (hB : B ≤ l) (hl : W.heap[l]? = some o) (ho : o.isCells = false) : Quiet B W (W.putObj l o') :=
  ⟨[l], chg_putObj W l o', fun r hr => by simp at hr; subst hr; exact ⟨hB, o, hl, ho⟩⟩
/-- Cells lie as they lay where all is quiet. -/
theorem Quiet.heap {B : Nat} {W W' : World} (h : Quiet B W W') {k : Nat} {c : Array Value} {e : TypeId} {f : Nat × Nat} (hk : W.heap[k]? = some (.cells c e f)) : W'.heap[k]? = some (.cells c e f) := by
  obtain ⟨T, hc, hT⟩ := h
  refine hc.heap hk (fun hm => ?_)
  obtain ⟨_, o, ho, hn⟩ := hT k hm
  rw [hk] at ho
  cases ho
  cases hn
theorem Quiet.cell {B : Nat} {W W' : World} (h : Quiet B W W') {a : Addr} {v : Value} (hk : W.cell? a = some v) : W'.cell? a = some v := by
  unfold World.cell? at hk ⊢
  split at hk
  · rename_i c e f hc
    rw [h.heap hc]
    exact hk
  · cases hk
theorem Quiet.row {B : Nat} {w w' : World} {e : TypeId} {k : Nat} {v : Value} {n : Nat} {xs : List Value} (g : Quiet B w w') (h : w.ownsRow 0 e k v n xs) : w'.ownsRow 0 e k v n xs := by
  refine ⟨h.1, ?_⟩
  rcases h.2 with h2 | ⟨b, cap, cur, rfl, hb, hh, r⟩
  · exact .inl h2
  · exact .inr ⟨b, cap, cur, rfl, hb, g.heap hh, r⟩
theorem Quiet.vec {B : Nat} {w w' : World} {vt e : TypeId} {k p : Nat} {sv : Value} {n : Nat} {xs : List Value} (g : Quiet B w w') (h : VecAt w vt e k p sv n xs) : VecAt w' vt e k p sv n xs :=
  ⟨g.heap h.obj, g.row h.row, h.ne⟩
theorem Quiet.chg {B : Nat} {S : List Nat} {a W W' : World} (g : Quiet B W W') (h : Chg S a W) (hB : a.heap.size ≤ B) : Chg S a W' := by
  obtain ⟨T, hc, hT⟩ := g
  exact h.trans hc (fun k hk hlt => absurd (Nat.lt_of_lt_of_le hlt (Nat.le_trans hB (hT k hk).1)) (Nat.lt_irrefl _))
theorem Quiet.low {B : Nat} {W W' : World} (g : Quiet B W W') {k : Nat} {o : Obj} (hk : k < B) (ho : W.heap[k]? = some o) : W'.heap[k]? = some o := by
  obtain ⟨T, hc, hT⟩ := g
  exact hc.heap ho (fun hm => Nat.lt_irrefl _ (Nat.lt_of_lt_of_le hk (hT k hm).1))
theorem Quiet.size {B : Nat} {W W' : World} (g : Quiet B W W') : W.heap.size ≤ W'.heap.size := by obtain ⟨T, hc, _⟩ := g; exact hc.size

/-- What a round may change: cells that lay, and new blocks; nothing of the iterator's. -/
def BodyOk (S : List Nat) (W W' : World) : Prop := ∃ T, Chg T W W' ∧ (∀ k ∈ T, k < W.heap.size → ∃ c e f, W.heap[k]? = some (.cells c e f)) ∧ (∀ c ∈ S, c < W.heap.size ∧ c ∉ T)
theorem BodyOk.same {S : List Nat} {W W' : World} (h : BodyOk S W W') {k : Nat} {o : Obj} (hk : W.heap[k]? = some o) (ho : o.isCells = false) : W'.heap[k]? = some o := by
  obtain ⟨T, hc, hT, _⟩ := h
  refine hc.heap hk (fun hm => ?_)
  obtain ⟨c, e, f, h⟩ := hT k hm (heap_lt hk)
  rw [h] at hk
  cases hk
  cases ho
theorem BodyOk.keep {S : List Nat} {W W' : World} (h : BodyOk S W W') : KeepB S W W' := by
  obtain ⟨T, hc, _, hS⟩ := h
  exact hc.keepB hS
theorem BodyOk.size {S : List Nat} {W W' : World} (h : BodyOk S W W') : W.heap.size ≤ W'.heap.size := by obtain ⟨T, hc, _⟩ := h; exact hc.size
theorem BodyOk.refl {S : List Nat} {W : World} (hS : ∀ c ∈ S, c < W.heap.size) : BodyOk S W W := ⟨[], Chg.refl _ _, (fun _ h => by cases h), fun c hc => ⟨hS c hc, (fun h => by cases h)⟩⟩

/-- How the body of a round may be left. -/
def roundEnd (S : List Nat) (W : World) (I : World → Prop) (Ix : Code → World → Prop) : Exit → Act → World → Prop
  | .normal, _, W' => BodyOk S W W' ∧ I W'
  | .ret, _, W' => BodyOk S W W' ∧ Ix .ret W'
  | .exit id, _, W' => BodyOk S W W' ∧ Ix (.exit id) W'
  | _, _, _ => False

/-- AN ITERATOR's WORD: it hands out 'encs 0', .., 'encs (N - 1)', in this order, whatever a round does that leaves the iterator's own blocks S as they are; or a round has said 'no more'. -/
def SeqList (P : Program) (gf : Nat) (lb : Array Value) (encs : Nat → Array Value) (S : List Nat) (N : Nat) (w0 : World) : Prop :=
  ∀ (l : Nat) (J : Nat → World → Prop) (Jx : World → Prop) (W : World), KeepB S w0 W → w0.heap.size ≤ W.heap.size → (∀ k W1 W2, J k W1 → Chg [] W1 W2 → J k W2) → (∀ W1 W2, Jx W1 → Chg [] W1 W2 → Jx W2) →
    (∀ k W1, k < N → J k W1 → YieldAt Fence.wide 8 P l (encs k) W1 fun e W' => (e = .returned (.bool true) ∧ J (k + 1) W' ∧ KeepB S W1 W') ∨ (e = .returned (.bool false) ∧ Jx W')) → J 0 W →
    CallsIn Fence.wide 9 P gf (#[.func (.yield l) #[] #[]] ++ lb) W fun e W' => (∃ v, e = .returned v) ∧ (J N W' ∨ Jx W')

/-- The mark that a range over a function leaves among the deferred calls. -/
def mark (D : Nat) : Deferred := { target := .collected D, args := #[] }

/-- A RANGE OVER SUCH AN ITERATOR, AT THE PLAIN WALK. -/
theorem wp_range_list {P : Program} {g : Operand} {ps : Array Tmp} {assign body : Code} {Q : Exit → Act → World → Prop} {a : Act} {w : World}
    {gf : Nat} {lb : Array Value} (hg : a.eval g = .func (.func gf) #[] lb) (eg : ∀ args w, (callFunc gf args).run P w = .ok (.enter gf args) w)
    {encs : Nat → Array Value} {S : List Nat} {N : Nat} (hseq : SeqList P gf lb encs S N w) (hS : ∀ c ∈ S, c < w.heap.size) (hps : ∀ x, (encs x).size = ps.size)
    (I : Nat → World → Prop) (Ix : Code → World → Prop) (Ax : Nat → Act → World → Prop)
    (hI : ∀ k W W', I k W → Quiet w.heap.size W W' → I k W') (hIx : ∀ c W W', Ix c W → Quiet w.heap.size W W' → Ix c W') (hAx : ∀ k a' W W', Ax k a' W → Quiet w.heap.size W W' → Ax k a' W') (h0 : I 0 w)
    (hassign : ∀ (l k : Nat) (W : World) (K : Act → World → Prop), k < N → I k W → (∀ c ∈ S, c < W.heap.size) → (∀ a' W', BodyOk S W W' → I k W' → Ax k a' W' → K a' W') →
      assign.wpIn (Fence.wide.inRound l) 8 P (Exit.then K (fun _ _ _ => False)) { tmps := (ps.zip (encs k)).foldl (fun t (p, v) => t.setIfInBounds p v) a.tmps, defers := [] } W)
    (hbody : ∀ (l k : Nat) (a' : Act) (W : World), k < N → I k W → Ax k a' W → (∀ c ∈ S, c < W.heap.size) → body.wpIn (Fence.wide.inRound l) 8 P (roundEnd S W (I (k + 1)) Ix) a' W)
    (hdone : ∀ (D : Nat) (W : World), w.heap.size ≤ D → I N W → W.heap[D]? = some (.deferred (some [])) → Q .normal { a with defers := mark D :: a.defers } W)
    (hstop : ∀ (D : Nat) (c : Code) (W : World), w.heap.size ≤ D → Ix c W → W.heap[D]? = some (.deferred (some [])) → c.wp P Q { a with defers := mark D :: a.defers } W) :
    (Code.rangeFunc g ps assign body).wp P Q a w := by
  refine (wpIn_wide (n := 10)).1 ?_
  refine wpIn_rangeFunc ?_
  intro fn hfn
  obtain ⟨rec, hrec⟩ : ∃ rec : LoopState → Option Code → Loop, rec = fun st pe => { state := st, pending := pe, fn, tmps := a.tmps, params := ps, assign, body, defers := w.heap.size } := ⟨_, rfl⟩
  obtain ⟨W1, hW1⟩ : ∃ W1, (w.alloc (.deferred (some []))).alloc (.loop (rec .ready none)) = W1 := ⟨_, rfl⟩
  have hc1 : Chg [] w W1 := by rw [← hW1]; exact ((Chg.refl [] w).alloc _).alloc _
  have hL1 : W1.heap[w.heap.size + 1]? = some (.loop (rec .ready none)) := by
    rw [← hW1]; have := World.alloc_heap_new (w.alloc (.deferred (some []))) (.loop (rec .ready none)); rwa [World.size_alloc] at this
  have hK1 : W1.heap[w.heap.size]? = some (.deferred (some [])) := by
    rw [← hW1]; exact (Below.heap_alloc _ _ _ (by simp)).trans (World.alloc_heap_new w _)
  refine ⟨w.heap.size + 1, [mark w.heap.size], W1, { target := .fn (.func gf) lb, args := #[.func (.yield (w.heap.size + 1)) #[] #[]] }, W1, gf,
    #[.func (.yield (w.heap.size + 1)) #[] #[]] ++ lb, W1, ?_, ?_, ?_, ?_, (fun h => by cases h), ?_⟩
  · rw [← hW1, hrec]; exact run_enterLoop_outer _ _ _ _ _
  · simp only [resolve, hg]
    simp [go_sem]
  · intro f' _; trivial
  · simp [invoke, go_sem, eg]
  · refine (hseq (w.heap.size + 1)
      (fun k W => I k W ∧ W.heap[w.heap.size + 1]? = some (.loop (rec .ready none)) ∧ W.heap[w.heap.size]? = some (.deferred (some [])) ∧ (∀ c ∈ S, c < W.heap.size))
      (fun W => ∃ c, Ix c W ∧ W.heap[w.heap.size + 1]? = some (.loop (rec .done (some c))) ∧ W.heap[w.heap.size]? = some (.deferred (some [])))
      W1 (hc1.keepB (fun c hc => ⟨hS c hc, fun h => by cases h⟩)) hc1.size
      (fun k A B ⟨h1, h2, h3, h4⟩ hc => ⟨hI _ _ _ h1 (Quiet.of_nil hc), hc.heap h2 (fun h => by cases h), hc.heap h3 (fun h => by cases h), fun c hc' => Nat.lt_of_lt_of_le (h4 c hc') hc.size⟩)
      (fun A B ⟨c, h1, h2, h3⟩ hc => ⟨c, hIx _ _ _ h1 (Quiet.of_nil hc), hc.heap h2 (fun h => by cases h), hc.heap h3 (fun h => by cases h)⟩)
      ?_ ⟨hI _ _ _ h0 (Quiet.of_nil hc1), hL1, hK1, fun c hc => Nat.lt_of_lt_of_le (hS c hc) hc1.size⟩).mono ?_
    · -- one round
      rintro k W hk ⟨hi, hl, hd, hs⟩
      have hy := run_yield (P := P) (args := encs k) hl (by rw [hrec]; exact hps k)
      rw [hrec] at hy
      refine ⟨fn, _, assign, body, hy, roundIn_of_wpIn hfn (hassign _ k W _ hk hi hs ?_)⟩
      intro a' Wa hb hia hax
      have hla := hb.same hl rfl
      have hda := hb.same hd rfl
      have hsa : ∀ c ∈ S, c < Wa.heap.size := fun c hc => Nat.lt_of_lt_of_le (hs c hc) hb.size
      have hlt : w.heap.size + 1 < Wa.heap.size := heap_lt hla
      refine ⟨_, run_beginRound hla (by rw [hrec]), ?_⟩
      obtain ⟨Wb, hWb⟩ : ∃ Wb, Wa.putObj (w.heap.size + 1) (.loop { rec .ready none with state := .busy }) = Wb := ⟨_, rfl⟩
      have hq : Quiet w.heap.size Wa Wb := by rw [← hWb]; exact Quiet.putObj _ (by omega) hla rfl
      have hkb1 : KeepB S Wa Wb := by
        rw [← hWb]
        exact (chg_putObj Wa _ _).keepB (fun c hc => ⟨hsa c hc, fun hm => by simp at hm; have := hS c hc; omega⟩)
      have hlb : Wb.heap[w.heap.size + 1]? = some (.loop { rec .ready none with state := .busy }) := by rw [← hWb]; exact World.putObj_heap_same hlt
      have hdb : Wb.heap[w.heap.size]? = some (.deferred (some [])) := by rw [← hWb]; exact (World.putObj_heap_other (by omega)).trans hda
      have hsb : ∀ c ∈ S, c < Wb.heap.size := fun c hc => Nat.lt_of_lt_of_le (hsa c hc) hq.size
      rw [hWb]
      refine wpIn_mono (hbody _ k a' Wb hk (hI _ _ _ hia hq) (hAx _ _ _ _ hax hq) hsb) ?_
      have fin : ∀ (jump : Option Code) (W3 : World), BodyOk S Wb W3 →
          (Instr.endRound (w.heap.size + 1) jump).run P W3 = .ok (.bool jump.isNone) (W3.putObj (w.heap.size + 1) (.loop (rec (if jump.isNone then .ready else .done) jump))) ∧
          Quiet w.heap.size W3 (W3.putObj (w.heap.size + 1) (.loop (rec (if jump.isNone then .ready else .done) jump))) ∧
          (W3.putObj (w.heap.size + 1) (.loop (rec (if jump.isNone then .ready else .done) jump))).heap[w.heap.size + 1]? = some (.loop (rec (if jump.isNone then .ready else .done) jump)) ∧
          (W3.putObj (w.heap.size + 1) (.loop (rec (if jump.isNone then .ready else .done) jump))).heap[w.heap.size]? = some (.deferred (some [])) ∧
          KeepB S W (W3.putObj (w.heap.size + 1) (.loop (rec (if jump.isNone then .ready else .done) jump))) ∧
          (∀ c ∈ S, c < (W3.putObj (w.heap.size + 1) (.loop (rec (if jump.isNone then .ready else .done) jump))).heap.size) := fun jump W3 hb3 => by
        have hl3 := hb3.same hlb rfl
        have hs3 : ∀ c ∈ S, c < W3.heap.size := fun c hc => Nat.lt_of_lt_of_le (hsb c hc) hb3.size
        have := run_endRound (P := P) jump hl3
        rw [hrec] at this ⊢
        refine ⟨this, Quiet.putObj _ (by omega) hl3 rfl, World.putObj_heap_same (heap_lt hl3), (World.putObj_heap_other (by omega)).trans (hb3.same hdb rfl), ?_, ?_⟩
        · refine keepB_t (keepB_t (keepB_t hb.keep hkb1) hb3.keep) ((chg_putObj W3 _ _).keepB (fun c hc => ⟨hs3 c hc, fun hm => ?_⟩))
          simp at hm
          have := hS c hc
          omega
        · intro c hc
          rw [World.putObj_size]
          exact hs3 c hc
      rintro e a3 W3 hp
      cases e with
      | normal =>
        obtain ⟨hb3, hi3⟩ := hp
        obtain ⟨hr, hq3, hl4, hk4, hkp, hs4⟩ := fin none W3 hb3
        exact ⟨_, _, hr, .inl ⟨rfl, ⟨hI _ _ _ hi3 hq3, hl4, hk4, hs4⟩, hkp⟩⟩
      | ret =>
        obtain ⟨hb3, hi3⟩ := hp
        obtain ⟨hr, hq3, hl4, hk4, hkp, hs4⟩ := fin (some .ret) W3 hb3
        exact ⟨_, _, hr, .inr ⟨rfl, .ret, hIx _ _ _ hi3 hq3, hl4, hk4⟩⟩
      | exit id =>
        obtain ⟨hb3, hi3⟩ := hp
        obtain ⟨hr, hq3, hl4, hk4, hkp, hs4⟩ := fin (some (.exit id)) W3 hb3
        exact ⟨_, _, hr, .inr ⟨rfl, .exit id, hIx _ _ _ hi3 hq3, hl4, hk4⟩⟩
      | goto t => exact hp.elim
      | panic ch => exact hp.elim
      | outgrown => exact hp.elim
    · -- behind the iterator
      rintro e W2 ⟨⟨v, rfl⟩, (⟨hi, hl, hk, _⟩ | ⟨c, hi, hl, hk⟩)⟩
      · refine ⟨none, _, by have := run_endLoop (P := P) hl (by rw [hrec]; simp); rw [hrec] at this; exact this, hdone _ _ (Nat.le_refl _) (hI _ _ _ hi (Quiet.putObj _ (by omega) hl rfl)) ((World.putObj_heap_other (by omega)).trans hk)⟩
      · refine ⟨some c, _, by have := run_endLoop (P := P) hl (by rw [hrec]; simp); rw [hrec] at this; exact this, wpIn_wide.2 (hstop _ c _ (Nat.le_refl _) (hIx _ _ _ hi (Quiet.putObj _ (by omega) hl rfl)) ((World.putObj_heap_other (by omega)).trans hk))⟩

/-- How a function leaves over the marks of its ranges. -/
theorem leaves_marks {P : Program} {n : Nat} {fn : Func} {tmps : Array Value} {R : Ending → World → Prop} : ∀ (Ds : List Nat) (w : World), Ds.Nodup → (∀ D ∈ Ds, w.heap[D]? = some (.deferred (some []))) →
    (∀ w', Chg Ds w w' → w'.heap.size = w.heap.size → ∃ v, (results fn tmps).run P w' = .ok v w' ∧ R (.returned v) w') → LeavesInM Fence.wide n P fn tmps R (Ds.map mark) .returning w
  | [], w, _, _, h => h w (Chg.refl _ _) rfl
  | D :: Ds, w, hn, hD, h => by
    have hd := hD D List.mem_cons_self
    rw [List.nodup_cons] at hn
    refine ⟨by simp, .inl ⟨D, _, rfl, run_takeDeferred hd, leaves_marks Ds _ hn.2 (fun D' h' => ?_) (fun w' hc hs => h w' ?_ (by rw [hs, World.putObj_size]))⟩⟩
    · exact (World.putObj_heap_other (fun e => hn.1 (by rw [← e]; exact h'))).trans (hD D' (List.mem_cons_of_mem _ h'))
    · exact ((chg_putObj w D _).mono (fun k hk _ => by simp at hk; simp [hk])).trans hc (fun k hk _ => List.mem_cons_of_mem _ hk)

theorem calls_of_wp_marks {P : Program} {f : FuncId} {fn : Func} {c : Code} {args : Array Value} {w : World} {R : Ending → World → Prop} (hf : P.funcs[f]? = some fn) (hb : fn.body = some c)
    (h : c.wp P (bodyPostM Fence.wide 10 P fn R) { tmps := args ++ Array.replicate (fn.ntmps - args.size) undef, defers := [] } w) : Calls P f args w R :=
  (callsIn_wide (n := 10)).1 (callsIn_of_wp_marks hf hb trivial (wpIn_wide.2 h))

theorem keepB_row {S : List Nat} {w w' : World} {e : TypeId} {k : Nat} {v : Value} {n : Nat} {xs : List Value} (h : w.ownsRow 0 e k v n xs) (g : KeepB S w w') (hn : ∀ b, v.ownBlock = some b → b ∈ S) : w'.ownsRow 0 e k v n xs := by
  refine ⟨h.1, ?_⟩
  rcases h.2 with h2 | ⟨b, cap, cur, rfl, hb, hh, r⟩
  · exact .inl h2
  · exact .inr ⟨b, cap, cur, rfl, hb, (g b (hn b rfl)).trans hh, r⟩
theorem keepB_vec {S : List Nat} {w w' : World} {vt e : TypeId} {k p : Nat} {sv : Value} {n : Nat} {xs : List Value} (h : VecAt w vt e k p sv n xs) (g : KeepB S w w') (hS : ∀ c ∈ vfoot p sv, c ∈ S) : VecAt w' vt e k p sv n xs :=
  ⟨(g p (hS p (by simp [vfoot]))).trans h.obj, keepB_row h.row g (fun b hb => hS b (by simp [vfoot, hb])), h.ne⟩
/-- A function value that ranges over a copied row: the closure's number, its box. -/
def Ranged (w : World) (fn st e k n : Nat) (xs : List Value) (en : Ending) (w' : World) : Prop :=
  ∃ b sv, en = .returned (.func (.func fn) #[] #[.pointer (some ⟨b, 0, none⟩)]) ∧ VecAt w' st e k b sv n xs ∧ Chg [] w w' ∧ (∀ c ∈ vfoot b sv, w.heap.size ≤ c)
theorem row_n63 {w : World} {e : TypeId} {k : Nat} {v : Value} {n : Nat} {xs : List Value} (h : w.ownsRow 0 e k v n xs) : n ≤ 9223372036854775807 := by
  rcases row_form h with ⟨_, rfl, _⟩ | ⟨g, cap, cur, _, _, h1, h2, _⟩
  · omega
  · unfold maxLen at h2; omega
/-- A cell of a row with one cell an element. -/
theorem row_cell1 {w : World} {e : TypeId} {a : Option Addr} {c : Nat} {n : Nat} {xs : List Value} (h : w.ownsRow 0 e 1 (.slice a n c) n xs) {k : Nat} (hk : k < n) :
    ∃ g, a = some ⟨g, 0, none⟩ ∧ n ≤ c ∧ w.cell? ⟨g, k, none⟩ = some (xs[k]?.getD undef) := by
  have hl := h.1
  rcases row_form h with ⟨_, rfl, _⟩ | ⟨g, cap, cur, e1, hg, hnc, _⟩
  · omega
  · cases e1
    refine ⟨g, rfl, hnc, ?_⟩
    have := h.cells (g := g) rfl k (xs[k]'(by omega)) (List.getElem?_eq_getElem _)
    rw [Addr.add_lit, Nat.zero_add] at this
    rw [this, List.getElem?_eq_getElem (by omega)]
    rfl
theorem enters_fn {P : Program} {f : FuncId} {fn : Func} {c : Code} (hf : P.funcs[f]? = some fn) (hn : (fn.name == "runtime.NumGoroutine") = false) (hb : fn.body = some c) : ∀ args w, (callFunc f args).run P w = .ok (.enter f args) w := fun args w => by
  have hn' : ¬ fn.name = "runtime.NumGoroutine" := by simpa using hn
  simp [callFunc, Sem.run, hf, hb, hn', go_sem]
/-- The same, where the assignment to the loop's variables turns nothing in memory. -/
theorem wp_range_plain {P : Program} {g : Operand} {ps : Array Tmp} {assign body : Code} {Q : Exit → Act → World → Prop} {a : Act} {w : World}
    {gf : Nat} {lb : Array Value} (hg : a.eval g = .func (.func gf) #[] lb) (eg : ∀ args w, (callFunc gf args).run P w = .ok (.enter gf args) w)
    {encs : Nat → Array Value} {S : List Nat} {N : Nat} (hseq : SeqList P gf lb encs S N w) (hS : ∀ c ∈ S, c < w.heap.size) (hps : ∀ x, (encs x).size = ps.size)
    (I : Nat → World → Prop) (Ix : Code → World → Prop) (hI : ∀ k W W', I k W → Quiet w.heap.size W W' → I k W') (hIx : ∀ c W W', Ix c W → Quiet w.heap.size W W' → Ix c W') (h0 : I 0 w) (a₁ : Nat → Act)
    (hassign : ∀ (l k : Nat) (W : World) (K : Act → World → Prop), k < N → K (a₁ k) W →
      assign.wpIn (Fence.wide.inRound l) 8 P (Exit.then K (fun _ _ _ => False)) { tmps := (ps.zip (encs k)).foldl (fun t (p, v) => t.setIfInBounds p v) a.tmps, defers := [] } W)
    (hbody : ∀ (l k : Nat) (W : World), k < N → I k W → (∀ c ∈ S, c < W.heap.size) → body.wpIn (Fence.wide.inRound l) 8 P (roundEnd S W (I (k + 1)) Ix) (a₁ k) W)
    (hdone : ∀ (D : Nat) (W : World), w.heap.size ≤ D → I N W → W.heap[D]? = some (.deferred (some [])) → Q .normal { a with defers := mark D :: a.defers } W)
    (hstop : ∀ (D : Nat) (c : Code) (W : World), w.heap.size ≤ D → Ix c W → W.heap[D]? = some (.deferred (some [])) → c.wp P Q { a with defers := mark D :: a.defers } W) :
    (Code.rangeFunc g ps assign body).wp P Q a w :=
  wp_range_list hg eg hseq hS hps I Ix (fun k a' _ => a' = a₁ k) hI hIx (fun _ _ _ _ h _ => h) h0
    (fun l k W K hk hi hs hK => hassign l k W K hk (hK _ _ (BodyOk.refl hs) hi rfl)) (fun l k a' W hk hi e hs => by subst e; exact hbody l k W hk hi hs) hdone hstop
end Go.Fol

/-! A range over an iterator that a round may break off: both ways lead to one end. No program in sight. -/
namespace Go.Fol
open Go Go.RowKit
set_option linter.unusedVariables false
set_option linter.unusedSimpArgs false

theorem wp_range_break {P : Program} {g : Operand} {ps : Array Tmp} {assign body : Code} {id : Nat} {R : Exit → Act → World → Prop} {a : Act} {w : World}
    {gf : Nat} {lb : Array Value} (hg : a.eval g = .func (.func gf) #[] lb) (eg : ∀ args w, (callFunc gf args).run P w = .ok (.enter gf args) w)
    {encs : Nat → Array Value} {S : List Nat} {N : Nat} (hseq : SeqList P gf lb encs S N w) (hS : ∀ c ∈ S, c < w.heap.size) (hps : ∀ x, (encs x).size = ps.size)
    (I : Nat → World → Prop) (J : World → Prop) (hI : ∀ k W W', I k W → Quiet w.heap.size W W' → I k W') (hJ : ∀ W W', J W → Quiet w.heap.size W W' → J W') (h0 : I 0 w) (hN : ∀ W, I N W → J W) (a₁ : Nat → Act)
    (hassign : ∀ (l k : Nat) (W : World) (K : Act → World → Prop), k < N → K (a₁ k) W →
      assign.wpIn (Fence.wide.inRound l) 8 P (Exit.then K (fun _ _ _ => False)) { tmps := (ps.zip (encs k)).foldl (fun t (p, v) => t.setIfInBounds p v) a.tmps, defers := [] } W)
    (hbody : ∀ (l k : Nat) (W : World), k < N → I k W → (∀ c ∈ S, c < W.heap.size) → body.wpIn (Fence.wide.inRound l) 8 P (roundEnd S W (I (k + 1)) (fun c W' => c = .exit id ∧ J W')) (a₁ k) W)
    (hend : ∀ (D : Nat) (W : World), w.heap.size ≤ D → J W → W.heap[D]? = some (.deferred (some [])) → R .normal { a with defers := mark D :: a.defers } W) :
    (Code.rangeFunc g ps assign body).wp P (Exit.inBlock id R) a w :=
  wp_range_plain hg eg hseq hS hps I (fun c W' => c = .exit id ∧ J W') hI (fun c W W' h q => ⟨h.1, hJ W W' h.2 q⟩) h0 a₁ hassign hbody
    (fun D W hD hi hd => hend D W hD (hN W hi) hd)
    (fun D c W hD hi hd => by
      obtain ⟨rfl, hj⟩ := hi
      have := hend D W hD hj hd
      exact wp_exit (by simpa [Exit.inBlock] using this))
theorem Quiet.own {B : Nat} {w0 W W' : World} (q : Quiet B W W') (hB : w0.heap.size ≤ B) {vt e k p : Nat} {sv : Value} {n : Nat} {xs : List Value} (h : Own w0 W vt e k p sv n xs) : Own w0 W' vt e k p sv n xs :=
  ⟨q.vec h.vec, q.chg h.chg hB, h.new⟩
theorem Own.set {w0 W W' : World} {vt e k p : Nat} {sv : Value} {n : Nat} {xs : List Value} (h : Own w0 W vt e k p sv n xs) {b : Nat} (hc : Chg [b] W W') (hb : w0.heap.size ≤ b) (hn : b ∉ vfoot p sv) : Own w0 W' vt e k p sv n xs :=
  ⟨h.vec.keep' hc (fun c hc h => by simp at h; exact hn (h ▸ hc)), h.chg.trans hc (fun c hc hl => by simp at hc; omega), h.new⟩
end Go.Fol

/-! Assertions about blocks, side by side ('Owns'): what a call has laid since a world w0, nothing older changed; a frame that any call leaves. No program in sight. -/
namespace Go.Fol
open Go Go.RowKit
set_option linter.unusedVariables false
set_option linter.unusedSimpArgs false

/-- What holds of some blocks. -/
structure Asrt where
  on : List Nat → World → Prop
  keep : ∀ {F : List Nat} {w w' : World}, on F w → (∀ b ∈ F, w'.heap[b]? = w.heap[b]?) → on F w'
  lt : ∀ {F : List Nat} {w : World}, on F w → ∀ b ∈ F, b < w.heap.size

/-- Assertions on blocks of S, each on blocks of its own. -/
def Sep : List Asrt → (Nat → Prop) → World → Prop
  | [], _, _ => True
  | A :: R, S, w => ∃ F, A.on F w ∧ (∀ b ∈ F, S b) ∧ Sep R (fun b => S b ∧ b ∉ F) w

theorem Sep.mono : ∀ {R : List Asrt} {S T : Nat → Prop} {w : World}, Sep R S w → (∀ b, S b → b < w.heap.size → T b) → Sep R T w
  | [], _, _, _, _, _ => trivial
  | A :: R, S, T, w, ⟨F, h, hs, hr⟩, g => ⟨F, h, fun b hb => g b (hs b hb) (A.lt h b hb), hr.mono (fun b ⟨h1, h2⟩ hl => ⟨g b h1 hl, h2⟩)⟩
theorem Sep.keep : ∀ {R : List Asrt} {S : Nat → Prop} {w w' : World}, Sep R S w → (∀ b, S b → b < w.heap.size → w'.heap[b]? = w.heap[b]?) → Sep R S w'
  | [], _, _, _, _, _ => trivial
  | A :: R, S, w, w', ⟨F, h, hs, hr⟩, g => ⟨F, A.keep h (fun b hb => g b (hs b hb) (A.lt h b hb)), hs, hr.keep (fun b hb hl => g b hb.1 hl)⟩
theorem Sep.swap {A B : Asrt} {R : List Asrt} {S : Nat → Prop} {w : World} (h : Sep (A :: B :: R) S w) : Sep (B :: A :: R) S w := by
  obtain ⟨F, hF, hs, G, hG, ht, hr⟩ := h
  exact ⟨G, hG, fun b hb => (ht b hb).1, F, hF, fun b hb => ⟨hs b hb, fun hg => (ht b hg).2 hb⟩, hr.mono (fun b ⟨⟨h1, h2⟩, h3⟩ _ => ⟨⟨h1, h3⟩, h2⟩)⟩
theorem Sep.perm {R R' : List Asrt} (p : R.Perm R') : ∀ {S : Nat → Prop} {w : World}, Sep R S w → Sep R' S w := by
  induction p with
  | nil => exact fun h => h
  | cons x _ ih => exact fun ⟨F, h, hs, hr⟩ => ⟨F, h, hs, ih hr⟩
  | swap x y l => exact fun h => h.swap
  | trans _ _ h1 h2 => exact fun h => h2 (h1 h)
theorem Sep.append {A B : List Asrt} : ∀ {S : Nat → Prop} {w : World}, Sep (A ++ B) S w ↔ ∃ F : List Nat, Sep A (fun b => S b ∧ b ∈ F) w ∧ (∀ b ∈ F, S b) ∧ Sep B (fun b => S b ∧ b ∉ F) w := by
  induction A with
  | nil =>
    intro S w
    constructor
    · intro h; exact ⟨[], trivial, fun _ h => (nomatch h), h.mono (fun b hb _ => ⟨hb, fun h => (nomatch h)⟩)⟩
    · rintro ⟨F, _, _, h⟩; exact Sep.mono (R := B) h (fun b hb _ => hb.1)
  | cons X A ih =>
    intro S w
    constructor
    · rintro ⟨F, h, hs, hr⟩
      obtain ⟨G, h1, h2, h3⟩ := ih.1 hr
      refine ⟨F ++ G, ⟨F, h, fun b hb => ⟨hs b hb, List.mem_append_left _ hb⟩, h1.mono (fun b hb _ => ⟨⟨hb.1.1, List.mem_append_right _ hb.2⟩, hb.1.2⟩)⟩, fun b hb => ?_, h3.mono (fun b hb _ => ⟨hb.1.1, fun hm => (List.mem_append.1 hm).elim hb.1.2 hb.2⟩)⟩
      rcases List.mem_append.1 hb with h | h
      · exact hs b h
      · exact (h2 b h).1
    · rintro ⟨F, ⟨G, h, hs, hr⟩, h2, h3⟩
      refine ⟨G, h, fun b hb => (hs b hb).1, ih.2 ⟨F.filter (fun b => decide (b ∉ G)), hr.mono (fun b hb _ => ⟨⟨hb.1.1, hb.2⟩, by simp [hb.1.2, hb.2]⟩), fun b hb => ?_, h3.mono (fun b hb _ => ⟨⟨hb.1, fun hm => hb.2 (hs b hm).2⟩, fun hm => hb.2 (List.mem_filter.1 hm).1⟩)⟩⟩
      have := List.mem_filter.1 hb
      exact ⟨h2 b this.1, by simpa using this.2⟩

/-- Laid since w0, side by side; nothing older has changed. -/
structure Owns (w0 w : World) (R : List Asrt) : Prop where
  chg : Chg [] w0 w
  sep : Sep R (fun b => w0.heap.size ≤ b) w

section
variable {w0 w w' : World} {A B : Asrt} {R R' : List Asrt}
theorem Owns.start (w : World) : Owns w w [] := ⟨Chg.refl _ _, trivial⟩
theorem Owns.of_chg (h : Chg [] w0 w) : Owns w0 w [] := ⟨h, trivial⟩
theorem Owns.perm (H : Owns w0 w R) (p : R.Perm R') : Owns w0 w R' := ⟨H.chg, H.sep.perm p⟩
theorem Owns.swap (H : Owns w0 w (A :: B :: R)) : Owns w0 w (B :: A :: R) := ⟨H.chg, H.sep.swap⟩
theorem perm_pick : ∀ (R : List Asrt) (i : Nat) (h : i < R.length), R.Perm (R[i] :: R.eraseIdx i)
  | [], i, h => by simp at h
  | A :: R, 0, _ => List.Perm.refl _
  | A :: R, i + 1, h => by
    simp only [List.getElem_cons_succ, List.eraseIdx_cons_succ]
    exact ((perm_pick R i (by simpa using h)).cons A).trans (List.Perm.swap ..)
theorem Owns.pick (H : Owns w0 w R) (i : Nat) (h : i < R.length := by decide) : Owns w0 w (R[i] :: R.eraseIdx i) := H.perm (perm_pick R i h)
/-- the i-th, and the others. -/
def takeAt : List Asrt → Nat → Option (Asrt × List Asrt)
  | [], _ => none
  | A :: R, 0 => some (A, R)
  | A :: R, i + 1 => match takeAt R i with
    | some (B, R') => some (B, A :: R')
    | none => none
/-- laid out anew: by the places among those that are left. -/
def ordL : List Nat → List Asrt → List Asrt
  | [], R => R
  | i :: is, R => match takeAt R i with
    | some (B, R') => B :: ordL is R'
    | none => R
theorem takeAt_perm : ∀ (R : List Asrt) (i : Nat) (B : Asrt) (R' : List Asrt), takeAt R i = some (B, R') → R.Perm (B :: R')
  | [], i, B, R', h => by simp [takeAt] at h
  | A :: R, 0, B, R', h => by simp [takeAt] at h; obtain ⟨rfl, rfl⟩ := h; exact List.Perm.refl _
  | A :: R, i + 1, B, R', h => by
    simp only [takeAt] at h
    split at h
    · rename_i B' R'' e
      cases h
      exact ((takeAt_perm R i _ _ e).cons A).trans (List.Perm.swap ..)
    · cases h
theorem ordL_perm : ∀ (is : List Nat) (R : List Asrt), R.Perm (ordL is R)
  | [], R => List.Perm.refl _
  | i :: is, R => by
    simp only [ordL]
    split
    · rename_i B R' e
      exact (takeAt_perm R i B R' e).trans ((ordL_perm is R').cons B)
    · exact List.Perm.refl _
theorem Owns.ord (H : Owns w0 w R) (is : List Nat) : Owns w0 w (ordL is R) := H.perm (ordL_perm is R)
theorem Owns.drop (H : Owns w0 w (A :: R)) : Owns w0 w R := by
  obtain ⟨hc, F, _, _, hr⟩ := H
  exact ⟨hc, hr.mono (fun b hb _ => hb.1)⟩
theorem Owns.left : ∀ {R R' : List Asrt} {w : World}, Owns w0 w (R ++ R') → Owns w0 w R := by
  intro R R' w H
  obtain ⟨F, h1, h2, h3⟩ := Sep.append.1 H.sep
  exact ⟨H.chg, h1.mono (fun b hb _ => hb.1)⟩
theorem Owns.sub (H : Owns w0 w R) (p : ∃ T, R.Perm (R' ++ T)) : Owns w0 w R' := by
  obtain ⟨T, p⟩ := p
  exact (H.perm p).left
theorem Owns.mem (H : Owns w0 w R) (h : A ∈ R) : Owns w0 w [A] := by
  obtain ⟨s, t, rfl⟩ := List.append_of_mem h
  exact (H.perm (List.perm_middle)).left (R := [A]) (R' := s ++ t)
theorem Owns.quiet (H : Owns w0 w R) (g : Chg [] w w') : Owns w0 w' R := ⟨H.chg.nil_trans g, H.sep.keep (fun b _ hl => g.block b hl (by simp))⟩
theorem Owns.alloc0 (H : Owns w0 w R) (o : Obj) : Owns w0 (w.alloc o) R := H.quiet ((Chg.refl [] w).alloc o)
theorem Owns.drew (H : Owns w0 w R) : Owns w0 w.drew R := H.quiet (Chg.refl [] w).drew
theorem Owns.drewN (H : Owns w0 w R) (n : Nat) : Owns w0 (w.drewN n) R := H.quiet ((Chg.refl [] w).drewN n)
theorem Owns.below (H : Owns w0 w R) : Below w0.heap.size w0 w := H.chg.below (Nat.le_refl _) (by simp)
/-- The step: a call that changes A's blocks alone, and lays new ones. -/
theorem Owns.step {Bs : List Asrt} (H : Owns w0 w (A :: R)) (h : ∀ F, A.on F w → (∀ b ∈ F, w0.heap.size ≤ b) → Chg F w w' ∧ Sep Bs (fun b => b ∈ F ∨ w.heap.size ≤ b) w') : Owns w0 w' (Bs ++ R) := by
  obtain ⟨hc, F, hF, hs, hr⟩ := H
  obtain ⟨hg, hB⟩ := h F hF hs
  refine ⟨hc.trans hg (fun b hb hl => absurd hl (Nat.not_lt.2 (hs b hb))), ?_⟩
  have hr' := (hr.mono (T := fun b => (w0.heap.size ≤ b ∧ b ∉ F) ∧ b < w.heap.size) (fun b hb hl => ⟨hb, hl⟩)).keep (w' := w') (fun b hb hl => hg.block b hl hb.1.2)
  have hz := hc.size
  refine Sep.append.2 ⟨F ++ (List.range w'.heap.size).filter (fun b => decide (w.heap.size ≤ b)), hB.mono (fun b hb hl => ?_), fun b hb => ?_, hr'.mono (fun b hb hl => ⟨hb.1.1, fun hm => ?_⟩)⟩
  · rcases hb with h1 | h1
    · exact ⟨hs b h1, List.mem_append_left _ h1⟩
    · exact ⟨Nat.le_trans hz h1, List.mem_append_right _ (List.mem_filter.2 ⟨List.mem_range.2 hl, by simpa using h1⟩)⟩
  · rcases List.mem_append.1 hb with h1 | h1
    · exact hs b h1
    · have := (List.mem_filter.1 h1).2; simp at this; omega
  · rcases List.mem_append.1 hm with h1 | h1
    · exact hb.1.2 h1
    · have := (List.mem_filter.1 h1).2; simp at this; omega
theorem Owns.step1 (H : Owns w0 w (A :: R)) (h : ∀ F, A.on F w → (∀ b ∈ F, w0.heap.size ≤ b) → Chg F w w' ∧ ∃ F', B.on F' w' ∧ ∀ b ∈ F', b ∈ F ∨ w.heap.size ≤ b) : Owns w0 w' (B :: R) :=
  Owns.step (Bs := [B]) H (fun F hF hs => by obtain ⟨h1, F', h2, h3⟩ := h F hF hs; exact ⟨h1, F', h2, h3, trivial⟩)
/-- What a call lays anew. -/
theorem Owns.new (H : Owns w0 w R) (hg : Chg [] w w') (h : ∃ F', B.on F' w' ∧ ∀ b ∈ F', w.heap.size ≤ b) : Owns w0 w' (B :: R) := by
  obtain ⟨F', h1, h2⟩ := h
  have hz := H.chg.size
  refine ⟨H.chg.nil_trans hg, F', h1, fun b hb => Nat.le_trans hz (h2 b hb), ?_⟩
  refine ((H.sep.mono (T := fun b => w0.heap.size ≤ b ∧ b < w.heap.size) (fun b hb hl => ⟨hb, hl⟩)).keep (w' := w') (fun b hb hl => hg.block b hl (by simp))).mono (fun b hb hl => ⟨hb.1, fun hm => ?_⟩)
  have := h2 b hm
  omega
theorem Owns.head (H : Owns w0 w (A :: R)) : ∃ F, A.on F w ∧ ∀ b ∈ F, w0.heap.size ≤ b := by
  obtain ⟨_, F, hF, hs, _⟩ := H
  exact ⟨F, hF, hs⟩
/-- The head's blocks turned otherwise: the rest still stands. -/
theorem Owns.rest (H : Owns w0 w (A :: R)) {F : List Nat} (h : ∀ G, A.on G w → G = F) (g : Chg F w w') : Owns w0 w' R :=
  Owns.step (Bs := []) H (fun G hG hs => by obtain rfl := h G hG; exact ⟨g, trivial⟩)
end

theorem cell_alloc {w : World} {a : Addr} {v : Value} (h : w.cell? a = some v) (o : Obj) : (w.alloc o).cell? a = some v := ((Chg.refl [] w).alloc o).cell h (by simp)
/-! ### kinds of assertions -/
/-- One block, whole. -/
def Asrt.obj (b : Nat) (o : Obj) : Asrt where
  on F w := F = [b] ∧ w.heap[b]? = some o
  keep := by rintro F w w' ⟨rfl, h⟩ g; exact ⟨rfl, (g b (by simp)).trans h⟩
  lt := by rintro F w ⟨rfl, h⟩ c hc; simp at hc; subst hc; exact heap_lt h
/-- A row that a slice value owns. -/
def Asrt.row (e : TypeId) (k : Nat) (v : Value) (n : Nat) (xs : List Value) : Asrt where
  on F w := F = v.ownBlock.toList ∧ w.ownsRow 0 e k v n xs
  keep := by rintro F w w' ⟨rfl, h⟩ g; exact ⟨rfl, keepB_row h (S := v.ownBlock.toList) g (fun b hb => by simp [hb])⟩
  lt := by rintro F w ⟨rfl, h⟩ c hc; simp at hc; exact row_lt h hc
/-- A vector: its block, its row. -/
def Asrt.vec (vt e : TypeId) (k p n : Nat) (xs : List Value) : Asrt where
  on F w := ∃ sv, F = vfoot p sv ∧ VecAt w vt e k p sv n xs
  keep := by rintro F w w' ⟨sv, rfl, h⟩ g; exact ⟨sv, rfl, keepB_vec h (S := vfoot p sv) g (fun _ h => h)⟩
  lt := by rintro F w ⟨sv, rfl, h⟩ c hc; exact h.foot_lt c hc
/-- A slice that can be read. -/
def Asrt.src (k : Nat) (v : Value) (n : Nat) (xs : List Value) : Asrt where
  on F w := ((n = 0 ∧ F = []) ∨ (0 < n ∧ 0 < k ∧ F = v.ownBlock.toList)) ∧ SrcV w k v n xs
  keep := by
    rintro F w w' ⟨hF, h⟩ g
    refine ⟨hF, ?_⟩
    rcases h with h | ⟨a, c, rfl, h1, h2, h3, h4⟩
    · exact .inl h
    · refine .inr ⟨a, c, rfl, h1, h2, h3, fun j u hj => ?_⟩
      rcases hF with ⟨rfl, rfl⟩ | ⟨hn, hk, rfl⟩
      · have : xs = [] := List.eq_nil_of_length_eq_zero (by simpa using h3)
        rw [this] at hj
        simp at hj
      · have hb : (a.add j).block = a.block := by unfold Addr.add; split <;> rfl
        exact (World.cell?_of_block (w := w) (g _ (by rw [hb]; simp [Value.ownBlock]))).trans (h4 j u hj)
  lt := by
    rintro F w ⟨hF, h⟩ c hc
    rcases hF with ⟨rfl, rfl⟩ | ⟨hn, hk, rfl⟩
    · cases hc
    · exact h.lt hn hk (by simpa using hc)
/-- Blocks that are as they were in W. -/
def Asrt.same (W : World) (G : List Nat) : Asrt where
  on F w := F = G ∧ ∀ b ∈ G, b < w.heap.size ∧ w.heap[b]? = W.heap[b]?
  keep := by
    rintro F w w' ⟨rfl, h⟩ g
    refine ⟨rfl, fun b hb => ?_⟩
    have h1 := h b hb
    have h2 := g b hb
    refine ⟨?_, h2.trans h1.2⟩
    rw [Array.getElem?_eq_getElem h1.1] at h2
    exact (Array.getElem?_eq_some_iff.1 h2).1
  lt := by rintro F w ⟨rfl, h⟩ c hc; exact (h c hc).1
/-- A fact. -/
def Asrt.pure (p : Prop) : Asrt where
  on F w := F = [] ∧ p
  keep := by rintro F w w' ⟨rfl, h⟩ g; exact ⟨rfl, h⟩
  lt := by rintro F w ⟨rfl, h⟩ c hc; cases hc
/-- For some x. -/
def Asrt.ex {α : Type} (A : α → Asrt) : Asrt where
  on F w := ∃ x, (A x).on F w
  keep := by rintro F w w' ⟨x, h⟩ g; exact ⟨x, (A x).keep h g⟩
  lt := by rintro F w ⟨x, h⟩ c hc; exact (A x).lt h c hc
/-- Several, as one. -/
def Asrt.all (L : List Asrt) : Asrt where
  on F w := Sep L (fun b => b ∈ F) w ∧ ∀ b ∈ F, b < w.heap.size
  keep := by
    rintro F w w' ⟨h, hl⟩ g
    refine ⟨h.keep (fun b hb _ => g b hb), fun b hb => ?_⟩
    have h2 := g b hb
    rw [Array.getElem?_eq_getElem (hl b hb)] at h2
    exact (Array.getElem?_eq_some_iff.1 h2).1
  lt := by rintro F w ⟨h, hl⟩ c hc; exact hl c hc

section
variable {w0 w w' : World} {A B : Asrt} {R R' : List Asrt}
theorem Owns.pureI {p : Prop} (H : Owns w0 w R) (hp : p) : Owns w0 w (Asrt.pure p :: R) := H.new (Chg.refl _ _) ⟨[], ⟨rfl, hp⟩, by simp⟩
theorem Owns.pureE {p : Prop} (H : Owns w0 w (Asrt.pure p :: R)) : p ∧ Owns w0 w R := by
  refine ⟨?_, H.drop⟩
  obtain ⟨F, h, _⟩ := H.head
  exact h.2
theorem Owns.exI {α : Type} {A : α → Asrt} (x : α) (H : Owns w0 w (A x :: R)) : Owns w0 w (Asrt.ex A :: R) := by
  obtain ⟨hc, F, hF, hs, hr⟩ := H
  exact ⟨hc, F, ⟨x, hF⟩, hs, hr⟩
theorem Owns.exE {α : Type} {A : α → Asrt} (H : Owns w0 w (Asrt.ex A :: R)) : ∃ x, Owns w0 w (A x :: R) := by
  obtain ⟨hc, F, ⟨x, hF⟩, hs, hr⟩ := H
  exact ⟨x, hc, F, hF, hs, hr⟩
theorem Owns.allI {L : List Asrt} (H : Owns w0 w (L ++ R)) : Owns w0 w (Asrt.all L :: R) := by
  obtain ⟨hc, hs⟩ := H
  obtain ⟨F, h1, h2, h3⟩ := Sep.append.1 hs
  refine ⟨hc, F.filter (fun b => decide (b < w.heap.size)), ⟨h1.mono (fun b hb hl => by simp [hb.2, hl]), fun b hb => by simpa using (List.mem_filter.1 hb).2⟩, fun b hb => h2 b (List.mem_filter.1 hb).1, h3.mono (fun b hb hl => ⟨hb.1, fun hm => hb.2 (List.mem_filter.1 hm).1⟩)⟩
theorem Owns.allE {L : List Asrt} (H : Owns w0 w (Asrt.all L :: R)) : Owns w0 w (L ++ R) := by
  obtain ⟨hc, F, ⟨h1, hl⟩, hs, hr⟩ := H
  exact ⟨hc, Sep.append.2 ⟨F, h1.mono (fun b hb _ => ⟨hs b hb, hb⟩), hs, hr⟩⟩

/-! one block -/
theorem Owns.alloc (H : Owns w0 w R) (cs : Array Value) (t : TypeId) : Owns w0 (w.alloc (.cells cs t)) (Asrt.obj w.heap.size (.cells cs t (0, 0)) :: R) :=
  H.new ((Chg.refl [] w).alloc _) ⟨_, ⟨rfl, heap_alloc_new _ _⟩, by simp⟩
theorem Owns.allocO (H : Owns w0 w R) (o : Obj) : Owns w0 (w.alloc o) (Asrt.obj w.heap.size o :: R) :=
  H.new ((Chg.refl [] w).alloc _) ⟨_, ⟨rfl, heap_alloc_new _ _⟩, by simp⟩
theorem Owns.obj {b : Nat} {o : Obj} (H : Owns w0 w (Asrt.obj b o :: R)) : w.heap[b]? = some o := by
  obtain ⟨F, ⟨_, h⟩, _⟩ := H.head
  exact h
theorem Owns.objs {b : Nat} {o : Obj} (H : Owns w0 w R) (h : Asrt.obj b o ∈ R) : w.heap[b]? = some o := (H.mem h).obj
theorem Owns.cell {b : Nat} {cs : Array Value} {t : TypeId} {f : Nat × Nat} (H : Owns w0 w (Asrt.obj b (.cells cs t f) :: R)) {j : Nat} {v : Value} (hv : cs[j]? = some v) : w.cell? ⟨b, j, none⟩ = some v := cell_of_heap H.obj hv
theorem Owns.frozen {b : Nat} {cs : Array Value} {t : TypeId} (H : Owns w0 w (Asrt.obj b (.cells cs t (0, 0)) :: R)) (j : Nat) : w.frozen? ⟨b, j, none⟩ = false := frozen_of_heap H.obj j
theorem Owns.set {b : Nat} {cs : Array Value} {t : TypeId} {f : Nat × Nat} (H : Owns w0 w (Asrt.obj b (.cells cs t f) :: R)) (j : Nat) (u : Value) :
    Owns w0 (w.setCell ⟨b, j, none⟩ u) (Asrt.obj b (.cells (cs.setIfInBounds j u) t f) :: R) :=
  H.step1 (fun F ⟨e, h⟩ _ => by subst e; exact ⟨(Chg.refl _ w).setCell (fun _ => by simp) u, _, ⟨rfl, heap_set_same h u⟩, fun b hb => .inl hb⟩)
theorem Owns.putObj {b : Nat} {o : Obj} (H : Owns w0 w (Asrt.obj b o :: R)) (o' : Obj) : Owns w0 (w.putObj b o') (Asrt.obj b o' :: R) :=
  H.step1 (fun F ⟨e, h⟩ _ => by subst e; exact ⟨chg_putObj w b o', _, ⟨rfl, World.putObj_heap_same (heap_lt h)⟩, fun b hb => .inl hb⟩)

/-! a row -/
section
variable {e : TypeId} {k n : Nat} {v : Value} {xs : List Value}
theorem Owns.row (H : Owns w0 w (Asrt.row e k v n xs :: R)) : w.ownsRow 0 e k v n xs := by
  obtain ⟨F, ⟨_, h⟩, _⟩ := H.head
  exact h
theorem Owns.rowNil (H : Owns w0 w R) (e : TypeId) (k : Nat) : Owns w0 w (Asrt.row e k (.slice none 0 0) 0 [] :: R) :=
  H.new (Chg.refl _ _) ⟨[], ⟨rfl, World.ownsRow_nil _ _ _ _⟩, by simp⟩
/-- A block just laid, as a row. -/
theorem Owns.rowOf {b : Nat} {cs : Array Value} (H : Owns w0 w (Asrt.obj b (.cells cs e (0, 0)) :: R)) (n c : Nat) (hn : n ≤ c) (hc : c ≤ maxLen) (hs : cs.size = c * k) : Owns w0 w (Asrt.row e k (.slice (some ⟨b, 0, none⟩) n c) n (cs.toList.take (n * k)) :: R) :=
  H.step1 (fun F ⟨e1, h⟩ _ => by
    subst e1
    refine ⟨Chg.refl _ _, [b], ⟨rfl, ?_, .inr ⟨b, c, cs, rfl, Nat.zero_le _, h, hn, hc, hs, rfl⟩⟩, fun b hb => .inl hb⟩
    rw [List.length_take, Array.length_toList, hs]
    exact Nat.min_eq_left (Nat.mul_le_mul_right k hn))
theorem Owns.rowSet {q : Nat} (H : Owns w0 w (Asrt.row e 1 v n xs :: R)) (hq : q < n) (x : Value) :
    ∃ g cap y, v = .slice (some ⟨g, 0, none⟩) n cap ∧ n ≤ cap ∧ w.cell? ⟨g, q, none⟩ = some y ∧ w.frozen? ⟨g, q, none⟩ = false ∧ Owns w0 (w.setCell ⟨g, q, none⟩ x) (Asrt.row e 1 v n (xs.set q x) :: R) := by
  have hrow := H.row
  rcases row_form hrow with ⟨_, rfl, _⟩ | ⟨g, cap, cur, rfl, hg, hnc, hm, hcs, htk, hxl⟩
  · omega
  refine ⟨g, cap, xs[q]'(by omega), rfl, hnc, ?_, frozen_of_heap hg q, H.step1 (fun F ⟨e1, h⟩ _ => ?_)⟩
  · have := hrow.cells (g := g) rfl q _ (List.getElem?_eq_getElem (by omega))
    rwa [Addr.add_lit, Nat.zero_add] at this
  · subst e1
    refine ⟨(Chg.refl _ w).setCell (fun _ => by simp [Value.ownBlock]) x, _, ⟨rfl, by simpa using hxl, .inr ⟨g, cap, _, rfl, Nat.zero_le _, heap_set_same hg x, hnc, hm, by simpa using hcs, ?_⟩⟩, fun b hb => .inl hb⟩
    simp only [Array.toList_setIfInBounds]
    rw [← htk, List.take_set]
end

/-! sources -/
/-- A slice that can be read wherever R stands. -/
def Reads (w0 : World) (R : List Asrt) (k : Nat) (v : Value) (n : Nat) (xs : List Value) : Prop := ∀ w, Owns w0 w R → SrcV w k v n xs
theorem Reads.old {k n : Nat} {v : Value} {xs : List Value} (h : SrcV w0 k v n xs) : Reads w0 R k v n xs := fun w H => h.keep H.chg (by simp)
theorem Reads.row {e : TypeId} {k n : Nat} {v : Value} {xs : List Value} (h : Asrt.row e k v n xs ∈ R) : Reads w0 R k v n xs := fun w H => SrcV.of_row (H.mem h).row
theorem Reads.sliced {k n c : Nat} {a : Option Addr} {xs : List Value} (h : Reads w0 R k (.slice a n c) n xs) {i j : Nat} (hij : i ≤ j) (hj : j ≤ n) (hk : 0 < k) :
    Reads w0 R k (Go.sliced a i j c k) (j - i) ((xs.drop (i * k)).take ((j - i) * k)) := fun w H => (h w H).sliced hij hj hk
theorem Reads.nil {k : Nat} : Reads w0 R k (.slice none 0 0) 0 [] := fun w H => .inl ⟨rfl, rfl, rfl⟩
theorem Reads.pre {n c : Nat} {a : Option Addr} {xs : List Value} (h : Reads w0 R 1 (.slice a n c) n xs) {q : Nat} (hq : q ≤ n) : Reads w0 R 1 (.slice a q c) q (xs.take q) := fun w H => (h w H).pre hq
theorem Reads.post {n c : Nat} {a : Option Addr} {xs : List Value} (h : Reads w0 R 1 (.slice a n c) n xs) {q : Nat} (hq : q ≤ n) {a2 : Option Addr} (ha : (if c = q then a else Option.map (fun x => x.add q) a) = a2) :
    Reads w0 R 1 (.slice a2 (n - q) (c - q)) (n - q) (xs.drop q) := fun w H => (h w H).post hq ha
theorem Reads.mid {n c : Nat} {a : Option Addr} {xs : List Value} (h : Reads w0 R 1 (.slice a n c) n xs) {q r : Nat} (hq : q + r ≤ n) (hc : ¬ c = q) :
    Reads w0 R 1 (.slice (Option.map (fun x => x.add q) a) r (c - q)) r ((xs.drop q).take r) := fun w H => by
  have := (h w H).sliced (i := q) (j := q + r) (by omega) hq (by decide)
  have e : Go.sliced a q (q + r) c 1 = .slice (Option.map (fun x => x.add q) a) r (c - q) := by
    unfold Go.sliced
    rw [if_neg hc, Nat.mul_one, Nat.add_sub_cancel_left]
  rw [e, Nat.add_sub_cancel_left] at this
  simpa using this
/-- A slice literal just laid. -/
theorem Reads.obj {k n c b : Nat} {cs : Array Value} {t : TypeId} {f : Nat × Nat} (h : Asrt.obj b (.cells cs t f) ∈ R) (hn : n ≤ c) (hc : c ≤ maxLen) (hl : n * k ≤ cs.size) : Reads w0 R k (.slice (some ⟨b, 0, none⟩) n c) n (cs.toList.take (n * k)) := fun w H => by
  refine .inr ⟨_, _, rfl, hn, hc, by rw [List.length_take, Array.length_toList]; exact Nat.min_eq_left hl, fun j u hj => ?_⟩
  rw [Addr.add_lit, Nat.zero_add]
  refine cell_of_heap (H.objs h) ?_
  rw [List.getElem?_take] at hj
  split at hj
  · simpa using hj
  · cases hj
theorem Reads.mono {k n : Nat} {v : Value} {xs : List Value} (h : Reads w0 R k v n xs) (p : ∃ T, R'.Perm (R ++ T)) : Reads w0 R' k v n xs := fun w H => h w (H.sub p)
theorem Reads.cons {k n : Nat} {v : Value} {xs : List Value} (h : Reads w0 R k v n xs) : Reads w0 (A :: R) k v n xs := fun w H => h w H.drop
/-- Such a slice lies off the blocks of what stands beside R. -/
theorem Reads.off {k n : Nat} {v : Value} {xs : List Value} (h : Reads w0 R k v n xs) (H : Owns w0 w (A :: R)) (hn : 0 < n) (hk : 0 < k) : ∀ F, A.on F w → (∀ G, A.on G w → G = F) → ∀ b, v.ownBlock = some b → b ∉ F := by
  intro F hF hu b hb hm
  have hlt := A.lt hF b hm
  have H2 : Owns w0 (w.putObj b (.cells #[] 0)) R := H.rest hu ((chg_putObj w b _).mono (fun c hc _ => by simp at hc; subst hc; exact hm))
  obtain ⟨b', off, c, rfl, _, _, hc⟩ := (h _ H2).cells hn hk
  cases hb
  have hl : 0 < xs.length := by rw [(h _ H2).len]; exact Nat.mul_pos hn hk
  have := hc 0 _ (List.getElem?_eq_getElem hl)
  simp only [World.cell?, World.putObj_heap_same hlt] at this
  simp at this
end
section
variable {w0 w w' : World} {A B : Asrt} {R R' : List Asrt}
theorem Reads.src {k n : Nat} {v : Value} {xs : List Value} (h : Asrt.src k v n xs ∈ R) : Reads w0 R k v n xs := fun w H => by
  obtain ⟨F, ⟨_, h⟩, _⟩ := (H.mem h).head
  exact h
theorem Owns.src {k n : Nat} {v : Value} {xs : List Value} (H : Owns w0 w (Asrt.src k v n xs :: R)) : SrcV w k v n xs := Reads.src (w0 := w0) List.mem_cons_self w H
/-- A source out of a source, or out of a row. -/
theorem Owns.srcSub {k n n' : Nat} {v v' : Value} {xs xs' : List Value} (H : Owns w0 w (Asrt.src k v n xs :: R)) (hb : v'.ownBlock = v.ownBlock) (hn : n' ≤ n) (h : SrcV w k v' n' xs') : Owns w0 w (Asrt.src k v' n' xs' :: R) :=
  H.step1 (fun F ⟨hF, _⟩ _ => by
    refine ⟨Chg.refl _ _, if n' = 0 then [] else F, ⟨?_, h⟩, fun b hb => .inl (by split at hb; cases hb; exact hb)⟩
    by_cases h0 : n' = 0
    · exact .inl ⟨h0, by simp [h0]⟩
    · rcases hF with ⟨h1, _⟩ | ⟨h1, h2, rfl⟩
      · omega
      · exact .inr ⟨by omega, h2, by simp [h0, hb]⟩)
theorem Owns.srcOfRow {e : TypeId} {k n : Nat} {v : Value} {xs : List Value} (H : Owns w0 w (Asrt.row e k v n xs :: R)) (hk : 0 < k) : Owns w0 w (Asrt.src k v n xs :: R) :=
  H.step1 (fun F ⟨hF, h⟩ _ => by
    subst hF
    by_cases h0 : n = 0
    · exact ⟨Chg.refl _ _, [], ⟨.inl ⟨h0, rfl⟩, SrcV.of_row h⟩, fun b hb => by cases hb⟩
    · exact ⟨Chg.refl _ _, _, ⟨.inr ⟨by omega, hk, rfl⟩, SrcV.of_row h⟩, fun b hb => .inl hb⟩)
theorem Owns.srcNil {k : Nat} (H : Owns w0 w R) : Owns w0 w (Asrt.src k (.slice none 0 0) 0 [] :: R) :=
  H.new (Chg.refl _ _) ⟨[], ⟨.inl ⟨rfl, rfl⟩, .inl ⟨rfl, rfl, rfl⟩⟩, by simp⟩
theorem Owns.srcPost {n c : Nat} {a : Option Addr} {xs : List Value} (H : Owns w0 w (Asrt.src 1 (.slice a n c) n xs :: R)) {q : Nat} (hq : q ≤ n) {a2 : Option Addr} (ha : (if c = q then a else Option.map (fun x => x.add q) a) = a2) :
    Owns w0 w (Asrt.src 1 (.slice a2 (n - q) (c - q)) (n - q) (xs.drop q) :: R) := by
  refine H.srcSub ?_ (by omega) (H.src.post hq ha)
  rw [← ha]
  split
  · cases a <;> rfl
  · cases a with
    | none => rfl
    | some a => simp only [Option.map_some, Value.ownBlock]; unfold Addr.add; split <;> rfl
end
/-! ### how calls end -/
/-- It returns v; R stands. -/
def Ret (v : Value) (w0 : World) (R : List Asrt) (e : Ending) (w' : World) : Prop := e = .returned v ∧ Owns w0 w' R
/-- It returns some v x; R x stands. -/
def RetX {α : Type} (v : α → Value) (w0 : World) (R : α → List Asrt) (e : Ending) (w' : World) : Prop := ∃ x, e = .returned (v x) ∧ Owns w0 w' (R x)

section
variable {w0 w w' : World} {R : List Asrt} {vt e : TypeId} {k p n : Nat} {xs : List Value}
theorem Owns.vec (H : Owns w0 w (Asrt.vec vt e k p n xs :: R)) : ∃ sv, VecAt w vt e k p sv n xs ∧ ∀ F, (Asrt.vec vt e k p n xs).on F w → F = vfoot p sv := by
  obtain ⟨F, ⟨sv, rfl, h⟩, _⟩ := H.head
  refine ⟨sv, h, ?_⟩
  rintro G ⟨sv', rfl, h'⟩
  have h1 := h.cell
  rw [h'.cell] at h1
  cases h1
  rfl
theorem Owns.vecOff (H : Owns w0 w (Asrt.vec vt e k p n xs :: R)) {sv : Value} (hv : VecAt w vt e k p sv n xs) {k' m : Nat} {v : Value} {ys : List Value} (h : Reads w0 R k' v m ys) (hk : 0 < k') :
    0 < m → ∀ b, v.ownBlock = some b → sv.ownBlock ≠ some b := by
  intro hm b hb hs
  obtain ⟨sv', hv', hu⟩ := H.vec
  have h1 := hv.cell
  rw [hv'.cell] at h1
  cases h1
  exact h.off H hm hk _ ⟨_, rfl, hv⟩ hu b hb (by simp [vfoot, hs])
theorem Owns.vecBack {n' : Nat} {ys : List Value} {sv r : Value} {en : Ending} (H : Owns w0 w (Asrt.vec vt e k p n xs :: R)) (hv : VecAt w vt e k p sv n xs) (h : VecBack w vt e k p n' ys sv r en w') : Ret r w0 (Asrt.vec vt e k p n' ys :: R) en w' := by
  obtain ⟨sv', rfl, hv', hm⟩ := h
  refine ⟨rfl, H.step1 (fun F hF _ => ?_)⟩
  obtain ⟨sv2, hv2, hu⟩ := H.vec
  have h1 := hv.cell
  rw [hv2.cell] at h1
  cases h1
  obtain rfl := hu F hF
  refine ⟨hm.chg, _, ⟨sv', rfl, hv'⟩, fun b hb => ?_⟩
  simp only [vfoot, List.mem_cons, Option.mem_toList] at hb ⊢
  rcases hb with rfl | hb
  · exact .inl (.inl rfl)
  · exact (hm.new b hb).elim (fun h => .inl (.inr h)) .inr
theorem splice_take_ge {α : Type} (L cs : List α) (off m : Nat) (h : off + cs.length ≤ m) (hl : off ≤ L.length) : (splice L off cs).take m = splice (L.take m) off cs := by
  simp only [splice]
  rw [List.take_append, List.take_append, List.take_take, List.take_take, List.drop_take, Nat.min_eq_right (by omega), Nat.min_eq_left (by omega), List.take_of_length_le (l := cs) (by rw [List.length_take]; omega), List.length_take, Nat.min_eq_left hl]
  congr 2
  congr 1
  omega
/-- Cells of the vector's row, written over. -/
theorem Owns.vecSplice {g cap off : Nat} {cur : Array Value} {cs : List Value} (H : Owns w0 w (Asrt.vec vt e k p n xs :: R)) (hv : VecAt w vt e k p (.slice (some ⟨g, 0, none⟩) n cap) n xs)
    (hg : w.heap[g]? = some (.cells cur e (0, 0))) (hfit : off + cs.length ≤ n * k) : Owns w0 (w.setRow g (splice cur.toList off cs).toArray) (Asrt.vec vt e k p n (splice xs off cs) :: R) := by
  have hpg : p ≠ g := fun e => hv.ne (by rw [e]; rfl)
  rcases row_form hv.row with ⟨h, _⟩ | ⟨g', cap', cur', h, hg', hnc, hcm, hcs, htk, hxl⟩
  · cases h
  cases h
  rw [hg] at hg'
  cases hg'
  refine H.step1 (fun F hF _ => ?_)
  obtain ⟨sv2, hv2, hu⟩ := H.vec
  have h1 := hv.cell
  rw [hv2.cell] at h1
  cases h1
  obtain rfl := hu F hF
  have hm := Nat.mul_le_mul_right k hnc
  have hcl : cur.toList.length = cap * k := by simpa using hcs
  refine ⟨(Chg.refl _ w).setRow (fun _ => by simp [vfoot, Value.ownBlock]) _, _, ⟨_, rfl, ⟨(setRow_other w g p _ hpg).trans hv.obj, ?_, hv.ne⟩⟩, fun b hb => .inl hb⟩
  refine row_setRow (c0 := cur) hg hnc hcm (by rw [length_splice _ _ _ (by omega), hcl]) ?_
  rw [splice_take_ge _ _ _ _ (by omega) (by omega), htk]
/-- One cell of the vector's row, set. -/
theorem Owns.vecSet {g cap q : Nat} (H : Owns w0 w (Asrt.vec vt e k p n xs :: R)) (hv : VecAt w vt e k p (.slice (some ⟨g, 0, none⟩) n cap) n xs) (hq : q < n * k) (u : Value) :
    Owns w0 (w.setCell ⟨g, q, none⟩ u) (Asrt.vec vt e k p n (xs.set q u) :: R) ∧ VecAt (w.setCell ⟨g, q, none⟩ u) vt e k p (.slice (some ⟨g, 0, none⟩) n cap) n (xs.set q u) ∧
      (∃ y, w.cell? ⟨g, q, none⟩ = some y) ∧ w.frozen? ⟨g, q, none⟩ = false := by
  have hpg : p ≠ g := fun e => hv.ne (by rw [e]; rfl)
  rcases row_form hv.row with ⟨h, _⟩ | ⟨g', cap', cur, h, hg, hnc, hcm, hcs, htk, hxl⟩
  · cases h
  cases h
  have hv' : VecAt (w.setCell ⟨g, q, none⟩ u) vt e k p (.slice (some ⟨g, 0, none⟩) n cap) n (xs.set q u) := by
    refine ⟨(Below.heap_setCell _ _ _ _ hpg).trans hv.obj, ⟨by simpa using hxl, .inr ⟨g, cap, _, rfl, Nat.zero_le _, heap_set_same hg u, hnc, hcm, by simpa using hcs, ?_⟩⟩, hv.ne⟩
    simp only [Array.toList_setIfInBounds]
    rw [← htk, List.take_set]
  refine ⟨H.step1 (fun F hF _ => ?_), hv', ⟨xs[q]'(by omega), ?_⟩, frozen_of_heap hg q⟩
  · obtain ⟨sv2, hv2, hu⟩ := H.vec
    have h1 := hv.cell
    rw [hv2.cell] at h1
    cases h1
    obtain rfl := hu F hF
    exact ⟨(Chg.refl _ w).setCell (fun _ => by simp [vfoot, Value.ownBlock]) _, _, ⟨_, rfl, hv'⟩, fun b hb => .inl hb⟩
  · have := hv.row.cells (g := g) rfl q _ (List.getElem?_eq_getElem (by omega))
    rwa [Addr.add_lit, Nat.zero_add] at this
theorem Owns.newVec {en : Ending} (H : Owns w0 w R) (h : NewVec w vt e k n xs en w') : RetX (fun p : Nat => .pointer (some ⟨p, 0, none⟩)) w0 (fun p => Asrt.vec vt e k p n xs :: R) en w' := by
  obtain ⟨p, sv, rfl, hv, hc, hn⟩ := h
  exact ⟨p, rfl, H.new hc ⟨_, ⟨sv, rfl, hv⟩, hn⟩⟩
theorem Owns.cloned {en : Ending} (H : Owns w0 w R) (h : Cloned w e k n xs en w') : RetX (fun v : Value => v) w0 (fun v => Asrt.row e k v n xs :: R) en w' := by
  obtain ⟨v, rfl, hv, hc, hn⟩ := h
  exact ⟨v, rfl, H.new hc ⟨_, ⟨rfl, hv⟩, fun b hb => hn b (by simpa using hb)⟩⟩
/-- append to a row of its own. -/
theorem Owns.app {P : Program} {t ty : TypeId} {i : TypeInfo} {z : Value} {bytes : Nat} (ht : P.underlying t = some (.slice e)) (hi : P.info? e = some i) (hz : i.zero = some z)
    (hsize : i.size = k) (hby : i.bytes = bytes) (hzs : z.cells.size = k) (hsz : 0 < k) {s x : Value} {m : Nat} {vs : List Value}
    (H : Owns w0 w (Asrt.row e k s n xs :: R)) (hv : Reads w0 R k x m vs) (h1 : ∀ u ∈ vs, u.oneCell' = true) (h63 : n + m ≤ maxLen) (hbytes : (n + m) * bytes ≤ 140737488355328) :
    ∃ v' w', (∀ ty, (Builtin.append_ #[t, t] ty #[s, x]).run P w = .ok v' w') ∧ Owns w0 w' (Asrt.row e k v' (n + m) (xs ++ vs) :: R) := by
  obtain ⟨v', w', hr, hrow, hc, hn⟩ := run_append_src (P := P) w t t e i z k bytes ht hi hz hsize hby hzs hsz s n xs H.row x m vs (hv w H.drop) h1 h63 hbytes
  refine ⟨v', w', fun _ => hr, H.step1 (fun F ⟨e1, _⟩ _ => ?_)⟩
  subst e1
  exact ⟨hc, _, ⟨rfl, hrow⟩, fun b hb => by simp at hb ⊢; exact hn b hb⟩
end
end Go.Fol

/-! Ranging over an iterator in words of what stands side by side. No program in sight. -/
namespace Go.Fol
open Go Go.RowKit
set_option linter.unusedVariables false
set_option linter.unusedSimpArgs false

section
variable {w0 w w' : World} {A B C D E : Asrt} {R R' : List Asrt}
theorem Owns.p1 (H : Owns w0 w (A :: B :: R)) : Owns w0 w (B :: A :: R) := H.swap
theorem Owns.p2 (H : Owns w0 w (A :: B :: C :: R)) : Owns w0 w (C :: A :: B :: R) := H.perm (perm_pick _ 2 (by simp))
theorem Owns.p3 (H : Owns w0 w (A :: B :: C :: D :: R)) : Owns w0 w (D :: A :: B :: C :: R) := H.perm (perm_pick _ 3 (by simp))
theorem Owns.p4 (H : Owns w0 w (A :: B :: C :: D :: E :: R)) : Owns w0 w (E :: A :: B :: C :: D :: R) := H.perm (perm_pick _ 4 (by simp))
/-- The first, laid behind the second, the third, .. -/
theorem Owns.q2 (H : Owns w0 w (A :: B :: C :: R)) : Owns w0 w (B :: C :: A :: R) := H.p2.p2
theorem Owns.q3 (H : Owns w0 w (A :: B :: C :: D :: R)) : Owns w0 w (B :: C :: D :: A :: R) := H.p3.p3.p3
theorem Owns.ranged {fn st e k n : Nat} {xs : List Value} {en : Ending} (H : Owns w0 w R) (h : Ranged w fn st e k n xs en w') :
    RetX (fun b : Nat => .func (.func fn) #[] #[.pointer (some ⟨b, 0, none⟩)]) w0 (fun b => Asrt.vec st e k b n xs :: R) en w' := by
  obtain ⟨b, sv, rfl, hv, hc, hn⟩ := h
  exact ⟨b, rfl, H.new hc ⟨_, ⟨sv, rfl, hv⟩, hn⟩⟩
theorem Owns.toSame {F : List Nat} (H : Owns w0 w (A :: R)) (hu : ∀ G, A.on G w → G = F) : Owns w0 w (Asrt.same w F :: R) :=
  H.step1 (fun G hG _ => by
    obtain rfl := hu G hG
    exact ⟨Chg.refl _ _, _, ⟨rfl, fun b hb => ⟨A.lt hG b hb, rfl⟩⟩, fun b hb => .inl hb⟩)
end

theorem keepB_lt {S : List Nat} {W W' : World} (h : KeepB S W W') {q : Nat} (hq : q ∈ S) (hl : q < W.heap.size) : q < W'.heap.size := by
  have := h q hq
  rw [Array.getElem?_eq_getElem hl] at this
  exact (Array.getElem?_eq_some_iff.1 this).1
/-- A call in a round. -/
theorem in_round {P : Program} {f : FuncId} {args : Array Value} {w : World} {Q : Ending → World → Prop} {l n : Nat} (h : Calls P f args w Q) : Fence.wide.fn f ∧ CallsIn (Fence.wide.inRound l) n P f args w Q :=
  ⟨trivial, CallsIn.inRound l (callsIn_wide.2 h)⟩
/-- append in a round, where its run is known. -/
theorem wpListIn_append_run {F : Fence} {n : Nat} {P : Program} (w : World) {ops : Array Oper} {rest : List Oper} {o : Oper} {a : Act} {Q : Exit → Act → World → Prop}
    (hg : o.guard = none) (s x : Operand) (t tn : TypeId) (hop : o.op = Op.call { callee := Callee.builtin Builtin.append, args := #[s, x], argTypes := #[t, tn] })
    (vs vx : Value) (hs : a.eval s = vs) (hx : a.eval x = vx) (v' : Value) (w' : World) (hrun : (Builtin.append_ #[t, tn] o.type #[vs, vx]).run P w = .ok v' w')
    (h : wpListIn F n P ops Q rest (a.put o.dst v') w') : wpListIn F n P ops Q (o :: rest) a w := by
  refine wpListIn_plain hg fun K hK' => ?_
  unfold Oper.wpIn
  refine ⟨?_, ?_⟩
  · simp [Oper.about, hop, resolve, Target.leads, Sem.run_pure]
  · rw [Oper.semAt_plain F _ _ (by rw [hop]; intro c hc'; cases hc')]
    simp [execOp, hop, resolve, invoke, builtin, hs, hx, hrun, Result.andThen]
    exact hK' _ _ h
/-- How the body of a round may be left. -/
def roundOwn (w0 : World) (R : List Asrt) (A : Asrt) (Ax : Code → Asrt) : Exit → Act → World → Prop
  | .normal, _, W' => Owns w0 W' (A :: R)
  | .ret, _, W' => Owns w0 W' (Ax .ret :: R)
  | .exit id, _, W' => Owns w0 W' (Ax (.exit id) :: R)
  | _, _, _ => False

/-- What a range leaves behind. -/
abbrev Asrt.mark (D : Nat) : Asrt := Asrt.obj D (.deferred (some []))

theorem wp_range_own2 {P : Program} {g : Operand} {ps : Array Tmp} {assign body : Code} {Q : Exit → Act → World → Prop} {a : Act} {w w0 : World}
    {gf : Nat} {lb : Array Value} (hg : a.eval g = .func (.func gf) #[] lb) (eg : ∀ args w, (callFunc gf args).run P w = .ok (.enter gf args) w)
    {encs : Nat → Array Value} {S : List Nat} {N : Nat} (hseq : SeqList P gf lb encs S N w) (hps : ∀ x, (encs x).size = ps.size)
    {R : List Asrt} (A : Nat → Asrt) (A' : Nat → Act → Asrt) (Ax : Code → Asrt) (H : Owns w0 w (A 0 :: Asrt.same w S :: R))
    (hassign : ∀ (l k : Nat) (W : World) (K : Act → World → Prop) (Z : Asrt), k < N → Owns w0 W (A k :: Z :: R) → (∀ a' W', Owns w0 W' (A' k a' :: Z :: R) → K a' W') →
      assign.wpIn (Fence.wide.inRound l) 8 P (Exit.then K (fun _ _ _ => False)) { tmps := (ps.zip (encs k)).foldl (fun t (p, v) => t.setIfInBounds p v) a.tmps, defers := [] } W)
    (hbody : ∀ (l k : Nat) (a' : Act) (W : World) (Z : Asrt), k < N → Owns w0 W (A' k a' :: Z :: R) → body.wpIn (Fence.wide.inRound l) 8 P (roundOwn w0 (Z :: R) (A (k + 1)) Ax) a' W)
    (hdone : ∀ (D : Nat) (W : World), Owns w0 W (A N :: Asrt.mark D :: R) → Q .normal { a with defers := mark D :: a.defers } W)
    (hstop : ∀ (D : Nat) (c : Code) (W : World), Owns w0 W (Ax c :: Asrt.mark D :: R) → c.wp P Q { a with defers := mark D :: a.defers } W) :
    (Code.rangeFunc g ps assign body).wp P Q a w := by
  refine (wpIn_wide (n := 10)).1 ?_
  refine wpIn_rangeFunc ?_
  intro fn hfn
  obtain ⟨rec, hrec⟩ : ∃ rec : LoopState → Option Code → Loop, rec = fun st pe => { state := st, pending := pe, fn, tmps := a.tmps, params := ps, assign, body, defers := w.heap.size } := ⟨_, rfl⟩
  obtain ⟨W1, hW1⟩ : ∃ W1, (w.alloc (.deferred (some []))).alloc (.loop (rec .ready none)) = W1 := ⟨_, rfl⟩
  obtain ⟨L, hL⟩ : ∃ L, L = w.heap.size + 1 := ⟨_, rfl⟩
  have hc1 : Chg [] w W1 := by rw [← hW1]; exact ((Chg.refl [] w).alloc _).alloc _
  have H1 : Owns w0 W1 (A 0 :: Asrt.obj L (.loop (rec .ready none)) :: Asrt.mark w.heap.size :: Asrt.same w S :: R) := by
    rw [← hW1, hL]
    have := (H.allocO (.deferred (some []))).allocO (.loop (rec .ready none))
    rw [World.size_alloc] at this
    exact this.p2
  have hlS : ∀ c ∈ S, c < w.heap.size := by
    obtain ⟨F, ⟨_, h⟩, _⟩ := H.p1.head
    exact fun c hc => (h c hc).1
  have same : ∀ {W : World} {X : List Asrt}, Owns w0 W X → Asrt.same w S ∈ X → ∀ c ∈ S, W.heap[c]? = w.heap[c]? := fun {W X} HX hm c hc => by
    obtain ⟨F, ⟨_, h⟩, _⟩ := (HX.mem hm).head
    exact (h c hc).2
  refine ⟨w.heap.size + 1, [mark w.heap.size], W1, { target := .fn (.func gf) lb, args := #[.func (.yield (w.heap.size + 1)) #[] #[]] }, W1, gf,
    #[.func (.yield (w.heap.size + 1)) #[] #[]] ++ lb, W1, ?_, ?_, ?_, ?_, (fun h => by cases h), ?_⟩
  · rw [← hW1, hrec]; exact run_enterLoop_outer _ _ _ _ _
  · simp only [resolve, hg]
    simp [go_sem]
  · intro f' _; trivial
  · simp [invoke, go_sem, eg]
  · rw [← hL]
    refine (hseq L
      (fun k W => Owns w0 W (A k :: Asrt.obj L (.loop (rec .ready none)) :: Asrt.mark w.heap.size :: Asrt.same w S :: R))
      (fun W => ∃ c, Owns w0 W (Ax c :: Asrt.obj L (.loop (rec .done (some c))) :: Asrt.mark w.heap.size :: R))
      W1 (hc1.keepB (fun c hc => ⟨hlS c hc, fun h => by cases h⟩)) hc1.size
      (fun k A B h hc => h.quiet hc) (fun A B ⟨c, h⟩ hc => ⟨c, h.quiet hc⟩) ?_ H1).mono ?_
    · -- one round
      intro k W hk HJ
      have hl := HJ.p1.obj
      have hy := run_yield (P := P) (args := encs k) hl (by rw [hrec]; exact hps k)
      rw [hrec] at hy
      refine ⟨fn, _, assign, body, hy, roundIn_of_wpIn hfn (hassign _ k W _ (Asrt.all [Asrt.obj L (.loop (rec .ready none)), Asrt.mark w.heap.size, Asrt.same w S]) hk (Owns.allI (L := [_, _, _]) HJ.q3).p1 ?_)⟩
      intro a' Wa HA
      have HA4 : Owns w0 Wa (Asrt.obj L (.loop (rec .ready none)) :: Asrt.mark w.heap.size :: Asrt.same w S :: A' k a' :: R) := Owns.allE (L := [_, _, _]) HA.p1
      have hl := HA4.obj
      refine ⟨_, run_beginRound hl (by rw [hrec]), ?_⟩
      have Hb := (HA4.putObj (.loop { rec .ready none with state := .busy })).p3
      obtain ⟨Wb, hWb⟩ : ∃ Wb, Wa.putObj L (.loop { rec .ready none with state := .busy }) = Wb := ⟨_, rfl⟩
      rw [hWb] at Hb ⊢
      have HZ : Owns w0 Wb (A' k a' :: Asrt.all [Asrt.obj L (.loop { rec .ready none with state := .busy }), Asrt.mark w.heap.size, Asrt.same w S] :: R) := (Owns.allI (L := [_, _, _]) Hb.q3).p1
      refine wpIn_mono (hbody _ k a' Wb _ hk HZ) ?_
      have fin : ∀ (X : Asrt) (jump : Option Code) (W3 : World), Owns w0 W3 (X :: Asrt.all [Asrt.obj L (.loop { rec .ready none with state := .busy }), Asrt.mark w.heap.size, Asrt.same w S] :: R) →
          (Instr.endRound L jump).run P W3 = .ok (.bool jump.isNone) (W3.putObj L (.loop (rec (if jump.isNone then .ready else .done) jump))) ∧
          Owns w0 (W3.putObj L (.loop (rec (if jump.isNone then .ready else .done) jump))) (X :: Asrt.obj L (.loop (rec (if jump.isNone then .ready else .done) jump)) :: Asrt.mark w.heap.size :: Asrt.same w S :: R) := fun X jump W3 H3 => by
        have H4 : Owns w0 W3 (Asrt.obj L (.loop { rec .ready none with state := .busy }) :: Asrt.mark w.heap.size :: Asrt.same w S :: X :: R) := Owns.allE (L := [_, _, _]) H3.p1
        have := run_endRound (P := P) jump H4.obj
        rw [hrec] at this H4 ⊢
        exact ⟨this, (H4.putObj _).p3⟩
      rintro e a3 W3 hp
      cases e with
      | normal =>
        obtain ⟨hr, H4⟩ := fin _ none W3 hp
        exact ⟨_, _, hr, .inl ⟨rfl, H4, fun c hc => (same H4 (by simp) c hc).trans (same HJ (by simp) c hc).symm⟩⟩
      | ret =>
        obtain ⟨hr, H4⟩ := fin _ (some .ret) W3 hp
        exact ⟨_, _, hr, .inr ⟨rfl, .ret, H4.p3.drop⟩⟩
      | exit id =>
        obtain ⟨hr, H4⟩ := fin _ (some (.exit id)) W3 hp
        exact ⟨_, _, hr, .inr ⟨rfl, .exit id, H4.p3.drop⟩⟩
      | goto t => exact hp.elim
      | panic ch => exact hp.elim
      | outgrown => exact hp.elim
    · -- behind the iterator
      rintro e W2 ⟨⟨v, rfl⟩, (HJ | ⟨c, HJ⟩)⟩
      · have hl := HJ.p1.obj
        have hr := run_endLoop (P := P) hl (by rw [hrec]; simp)
        rw [hrec] at hr
        exact ⟨none, _, hr, hdone _ _ ((HJ.p1.putObj _).drop.p2.drop)⟩
      · have hl := HJ.p1.obj
        have hr := run_endLoop (P := P) hl (by rw [hrec]; simp)
        rw [hrec] at hr
        exact ⟨some c, _, hr, wpIn_wide.2 (hstop _ c _ ((HJ.p1.putObj _).drop))⟩

theorem wp_range_own {P : Program} {g : Operand} {ps : Array Tmp} {assign body : Code} {Q : Exit → Act → World → Prop} {a : Act} {w w0 : World}
    {gf : Nat} {lb : Array Value} (hg : a.eval g = .func (.func gf) #[] lb) (eg : ∀ args w, (callFunc gf args).run P w = .ok (.enter gf args) w)
    {encs : Nat → Array Value} {S : List Nat} {N : Nat} (hseq : SeqList P gf lb encs S N w) (hps : ∀ x, (encs x).size = ps.size)
    {R : List Asrt} (A : Nat → Asrt) (Ax : Code → Asrt) (H : Owns w0 w (A 0 :: Asrt.same w S :: R)) (a₁ : Nat → Act)
    (hassign : ∀ (l k : Nat) (W : World) (K : Act → World → Prop), k < N → K (a₁ k) W →
      assign.wpIn (Fence.wide.inRound l) 8 P (Exit.then K (fun _ _ _ => False)) { tmps := (ps.zip (encs k)).foldl (fun t (p, v) => t.setIfInBounds p v) a.tmps, defers := [] } W)
    (hbody : ∀ (l k : Nat) (W : World) (Z : Asrt), k < N → Owns w0 W (A k :: Z :: R) → body.wpIn (Fence.wide.inRound l) 8 P (roundOwn w0 (Z :: R) (A (k + 1)) Ax) (a₁ k) W)
    (hdone : ∀ (D : Nat) (W : World), Owns w0 W (A N :: Asrt.mark D :: R) → Q .normal { a with defers := mark D :: a.defers } W)
    (hstop : ∀ (D : Nat) (c : Code) (W : World), Owns w0 W (Ax c :: Asrt.mark D :: R) → c.wp P Q { a with defers := mark D :: a.defers } W) :
    (Code.rangeFunc g ps assign body).wp P Q a w :=
  wp_range_own2 hg eg hseq hps A (fun k a' => Asrt.all [Asrt.pure (a' = a₁ k), A k]) Ax H
    (fun l k W K Z hk HW hK => hassign l k W K hk (hK _ _ (Owns.allI (L := [_, _]) (HW.pureI rfl))))
    (fun l k a' W Z hk HW => by
      obtain ⟨rfl, HW'⟩ := (Owns.allE (L := [_, _]) HW).pureE
      exact hbody l k W Z hk HW') hdone hstop

/-- A range over an iterator that a round may break off: both ways lead to one end. -/
theorem wp_range_own_break {P : Program} {g : Operand} {ps : Array Tmp} {assign body : Code} {id : Nat} {Q : Exit → Act → World → Prop} {a : Act} {w w0 : World}
    {gf : Nat} {lb : Array Value} (hg : a.eval g = .func (.func gf) #[] lb) (eg : ∀ args w, (callFunc gf args).run P w = .ok (.enter gf args) w)
    {encs : Nat → Array Value} {S : List Nat} {N : Nat} (hseq : SeqList P gf lb encs S N w) (hps : ∀ x, (encs x).size = ps.size)
    {R : List Asrt} (A : Nat → Asrt) (J : Asrt) (H : Owns w0 w (A 0 :: Asrt.same w S :: R)) (hN : ∀ W X, Owns w0 W (A N :: X) → Owns w0 W (J :: X)) (a₁ : Nat → Act)
    (hassign : ∀ (l k : Nat) (W : World) (K : Act → World → Prop), k < N → K (a₁ k) W →
      assign.wpIn (Fence.wide.inRound l) 8 P (Exit.then K (fun _ _ _ => False)) { tmps := (ps.zip (encs k)).foldl (fun t (p, v) => t.setIfInBounds p v) a.tmps, defers := [] } W)
    (hbody : ∀ (l k : Nat) (W : World) (Z : Asrt), k < N → Owns w0 W (A k :: Z :: R) → body.wpIn (Fence.wide.inRound l) 8 P (roundOwn w0 (Z :: R) (A (k + 1)) (fun c => Asrt.all [Asrt.pure (c = .exit id), J])) (a₁ k) W)
    (hend : ∀ (D : Nat) (W : World), Owns w0 W (J :: Asrt.mark D :: R) → Q .normal { a with defers := mark D :: a.defers } W) :
    (Code.rangeFunc g ps assign body).wp P (Exit.inBlock id Q) a w :=
  wp_range_own hg eg hseq hps A (fun c => Asrt.all [Asrt.pure (c = .exit id), J]) H a₁ hassign hbody
    (fun D W hD => hend D W (hN W _ hD))
    (fun D c W hD => by
      obtain ⟨rfl, hD'⟩ := (Owns.allE (L := [_, _]) hD).pureE
      have := hend D W hD'
      exact wp_exit (by simpa [Exit.inBlock] using this))

/-- How a function leaves over the marks of its ranges. -/
theorem leaves_own {P : Program} {n : Nat} {fn : Func} {tmps : Array Value} {Q : Ending → World → Prop} {w0 : World} {R : List Asrt} : ∀ (Ds : List Nat) (w : World), Owns w0 w (Ds.map Asrt.mark ++ R) →
    (∀ w', Owns w0 w' R → ∃ v, (results fn tmps).run P w' = .ok v w' ∧ Q (.returned v) w') → LeavesInM Fence.wide n P fn tmps Q (Ds.map mark) .returning w
  | [], w, H, h => h w H
  | D :: Ds, w, H, h => by
    have H' : Owns w0 w (Asrt.mark D :: (Ds.map Asrt.mark ++ R)) := H
    exact ⟨by simp, .inl ⟨D, _, rfl, run_takeDeferred H'.obj, leaves_own Ds _ ((H'.putObj _).drop) h⟩⟩
end Go.Fol

/-! Lists of things that take several cells each. No program in sight. -/
namespace Go.Fol
open Go Go.RowKit
set_option linter.unusedVariables false
set_option linter.unusedSimpArgs false
section
variable {α : Type} {f : α → List Value} {K : Nat}
/-- the cells of all, one after another. -/
def flat (f : α → List Value) (L : List α) : List Value := L.flatMap f
theorem flat_nil : flat f [] = [] := rfl
theorem flat_cons (x : α) (L : List α) : flat f (x :: L) = f x ++ flat f L := by simp [flat]
theorem flat_append (A B : List α) : flat f (A ++ B) = flat f A ++ flat f B := by simp [flat]
theorem flat_one (x : α) : flat f [x] = f x := by simp [flat]
theorem flat_len (hf : ∀ x, (f x).length = K) : ∀ L : List α, (flat f L).length = L.length * K
  | [] => by simp [flat]
  | x :: L => by rw [flat_cons, List.length_append, hf, flat_len hf L, List.length_cons, Nat.add_mul]; omega
theorem flat_take (hf : ∀ x, (f x).length = K) : ∀ (L : List α) (i : Nat), (flat f L).take (i * K) = flat f (L.take i)
  | [], i => by simp [flat]
  | x :: L, 0 => by simp [flat]
  | x :: L, i + 1 => by
    rw [flat_cons, List.take_succ_cons, flat_cons, List.take_append, ← flat_take hf L i, hf, List.take_of_length_le (by rw [hf, Nat.add_mul]; omega)]
    congr 2
    rw [Nat.add_mul]; omega
theorem flat_drop (hf : ∀ x, (f x).length = K) : ∀ (L : List α) (i : Nat), (flat f L).drop (i * K) = flat f (L.drop i)
  | [], i => by simp [flat]
  | x :: L, 0 => by simp [flat]
  | x :: L, i + 1 => by
    rw [flat_cons, List.drop_succ_cons, List.drop_append, ← flat_drop hf L i, hf, List.drop_eq_nil_of_le (by rw [hf, Nat.add_mul]; omega), List.nil_append]
    congr 1
    rw [Nat.add_mul]; omega
theorem flat_get (hf : ∀ x, (f x).length = K) {L : List α} {i j : Nat} {x : α} (hx : L[i]? = some x) (hj : j < K) : (flat f L)[i * K + j]? = (f x)[j]? := by
  obtain ⟨hi, rfl⟩ := List.getElem?_eq_some_iff.1 hx
  have h1 : (flat f L).drop (i * K) = flat f (L.drop i) := flat_drop hf L i
  rw [List.drop_eq_getElem_cons hi, flat_cons] at h1
  have : ((flat f L).drop (i * K))[j]? = (f L[i])[j]? := by rw [h1, List.getElem?_append_left (by rw [hf]; exact hj)]
  rwa [List.getElem?_drop] at this
theorem flat_one_cell (h : ∀ x, ∀ u ∈ f x, u.oneCell' = true) (L : List α) : ∀ u ∈ flat f L, u.oneCell' = true := by
  intro u hu
  obtain ⟨x, _, hx⟩ := List.mem_flatMap.1 hu
  exact h x u hx
theorem flat_set (hf : ∀ x, (f x).length = K) {L : List α} {i : Nat} {x y : α} (hx : L[i]? = some x) : (flat f L).take (i * K) ++ f y ++ (flat f L).drop ((i + 1) * K) = flat f (L.set i y) := by
  obtain ⟨hi, rfl⟩ := List.getElem?_eq_some_iff.1 hx
  rw [flat_take hf, flat_drop hf, List.set_eq_take_append_cons_drop, if_pos hi, flat_append, flat_cons, List.append_assoc]
end
/-- two cells set. -/
theorem set_two (xs : List Value) (q : Nat) (a b : Value) (h : q + 1 < xs.length) : (xs.set q a).set (q + 1) b = xs.take q ++ [a, b] ++ xs.drop (q + 2) := by
  apply List.ext_getElem?
  intro k
  by_cases h1 : k < q
  · rw [List.getElem?_set_ne (by omega), List.getElem?_set_ne (by omega), List.append_assoc, List.getElem?_append_left (by simp; omega), List.getElem?_take_of_lt h1]
  · by_cases h2 : k = q
    · subst h2
      rw [List.getElem?_set_ne (by omega), List.getElem?_set_self (by omega), List.append_assoc, List.getElem?_append_right (by simp; omega), List.length_take, Nat.min_eq_left (by omega)]
      simp
    · by_cases h3 : k = q + 1
      · subst h3
        rw [List.getElem?_set_self (by simp; omega), List.append_assoc, List.getElem?_append_right (by simp; omega), List.length_take, Nat.min_eq_left (by omega)]
        simp
      · rw [List.getElem?_set_ne (by omega), List.getElem?_set_ne (by omega), List.getElem?_append_right (by simp; omega), List.getElem?_drop]
        congr 1
        simp
        omega
/-- places as cells. -/
def posf (p : Int × Int) : List Value := [.int .i64 p.1, .int .i64 p.2]
abbrev poss (L : List (Int × Int)) : List Value := flat posf L
theorem posf_len : ∀ x, (posf x).length = 2 := fun _ => rfl
theorem poss_one (L : List (Int × Int)) : ∀ u ∈ poss L, u.oneCell' = true := flat_one_cell (fun x u hu => by simp [posf] at hu; rcases hu with rfl | rfl <;> rfl) L
theorem poss_len (L : List (Int × Int)) : (poss L).length = L.length * 2 := flat_len posf_len L
theorem poss_get {L : List (Int × Int)} {i : Nat} {p : Int × Int} (h : L[i]? = some p) : (poss L)[i * 2]? = some (.int .i64 p.1) ∧ (poss L)[i * 2 + 1]? = some (.int .i64 p.2) :=
  ⟨by have := flat_get posf_len h (j := 0) (by decide); simpa [posf] using this, by have := flat_get posf_len h (j := 1) (by decide); simpa [posf] using this⟩
theorem poss_snoc (L : List (Int × Int)) (a b : Int) : poss L ++ [.int .i64 a, .int .i64 b] = poss (L ++ [(a, b)]) := by rw [poss, poss, flat_append, flat_one]; rfl
theorem poss_take {L : List (Int × Int)} {k : Nat} {q : Int × Int} (hq : L[k]? = some q) : poss (L.take k) ++ [.int .i64 q.1, .int .i64 q.2] = poss (L.take (k + 1)) := by
  obtain ⟨h1, h2⟩ := List.getElem?_eq_some_iff.1 hq
  rw [List.take_succ_eq_append_getElem h1, h2, poss_snoc]
theorem poss_set {L : List (Int × Int)} {i : Nat} (a b : Int) (h : i < L.length) : ((poss L).set (i * 2) (.int .i64 a)).set (i * 2 + 1) (.int .i64 b) = poss (L.set i (a, b)) := by
  rw [set_two _ _ _ _ (by rw [poss_len]; omega)]
  have := flat_set posf_len (L := L) (i := i) (x := L[i]) (y := (a, b)) (List.getElem?_eq_getElem h)
  rw [Nat.add_mul] at this
  exact this
end Go.Fol

/-! A region that draws its order, in a round: all its operations but the last few only read (or call quietly). No program in sight. -/
namespace Go.Fol
open Go Go.RowKit
set_option linter.unusedVariables false
set_option linter.unusedSimpArgs false
section
variable {P : Program} {l n : Nat} {ops : Array Oper} {md : Region.Mode} {w : World}
theorem wpIn_of_still {o : Oper} (hd : ∀ c, o.op ≠ .defer c) {a : Act} {K : Act → Prop} {K' : Act → World → Prop} {Q' : Exit → Act → World → Prop} (h : ∀ a, K a → K' a w) (hh : o.still P a w K) : o.wpIn (Fence.wide.inRound l) n P a w K' Q' := by
  unfold Oper.still at hh
  unfold Oper.wpIn
  refine ⟨fun f _ => trivial, ?_⟩
  rw [Oper.semAt_plain (Fence.wide.inRound l) _ _ hd]
  generalize (execOp a.eval o).run P w = r at *
  cases r with
  | ok n w' =>
    cases n with
    | enter f args =>
      simp only [Oper.stillUpon] at hh
      obtain ⟨rfl, v, hc, hn⟩ := hh
      refine ⟨(fun hs => by cases hs), (CallsIn.inRound l (callsIn_wide.2 hc)).mono fun e w'' hew => ?_⟩
      obtain ⟨he, hw⟩ := hew
      subst he
      subst hw
      exact h _ hn
    | value v => simp only [Oper.stillUpon] at hh; obtain ⟨rfl, h2⟩ := hh; exact h _ h2
    | skip => simp only [Oper.stillUpon] at hh; obtain ⟨rfl, h2⟩ := hh; exact h _ h2
    | _ => simp only [Oper.stillUpon] at hh
  | halt x w' => simp only [Oper.stillUpon] at hh
theorem wpOpIn_of_stOp (hd : ∀ (j : Nat) (o : Oper), ops[j]? = some o → ∀ c, o.op ≠ .defer c) {i : Nat} {a : Act} {K : Act → Prop} {K' : Act → World → Prop} {Q' : Exit → Act → World → Prop} (h : ∀ a, K a → K' a w) (hh : stOp P ops w i K a) : wpOpIn (Fence.wide.inRound l) n P ops Q' i K' a w := by
  unfold stOp at hh
  unfold wpOpIn
  split
  · rename_i ho; simp only [ho] at hh; exact h _ hh
  · rename_i o ho
    simp only [ho] at hh
    split
    · rename_i hw; simp only [hw, if_true] at hh; exact wpIn_of_still (hd i o ho) h hh
    · rename_i hw; simp only [hw] at hh; exact ⟨fun f _ => trivial, h _ hh⟩
theorem wpAnyIn_of_head (hd : ∀ (j : Nat) (o : Oper), ops[j]? = some o → ∀ c, o.op ≠ .defer c) {m g : Nat} {L : Array Bool → Act → Prop} {Q' : Exit → Act → World → Prop} (hL : ∀ listed a, L listed a → wpAnyIn (Fence.wide.inRound l) n P md ops Q' g listed a w) :
    ∀ (f : Nat) (listed : Array Bool) (a : Act), wpAnyL P md ops w m L f listed a → wpAnyIn (Fence.wide.inRound l) n P md ops Q' (f + g) listed a w
  | 0, listed, a, h => by rw [Nat.zero_add]; exact hL _ _ h
  | f + 1, listed, a, h => by
    rw [show f + 1 + g = (f + g) + 1 by omega]
    exact ⟨fun h0 => absurd h0 h.1, fun i hi => wpOpIn_of_stOp hd (fun a' h' => wpAnyIn_of_head hd hL f _ a' h') (h.2 i hi).2⟩
theorem uponIn_mono {o : Oper} {a : Act} {K K' : Act → World → Prop} {Q' : Exit → Act → World → Prop} (h : ∀ a w, K a w → K' a w) {r : Result Next} (hh : o.uponIn (Fence.wide.inRound l) n P a K Q' r) : o.uponIn (Fence.wide.inRound l) n P a K' Q' r := by
  cases r with
  | ok x w' =>
    cases x <;> simp only [Oper.uponIn] at hh ⊢
    case enter f args => exact ⟨hh.1, hh.2.mono fun e w'' he => by cases e with | returned v => exact h _ _ he | panicked c => exact he | outgrown => exact he⟩
    case row r args => exact ⟨hh.1, hh.2.mono fun v w'' he => h _ _ he⟩
    case round l' f tmps assign body => exact ⟨hh.1, hh.2.mono fun e w'' he => by cases e with | returned v => exact h _ _ he | panicked c => exact he | outgrown => exact he⟩
    all_goals exact h _ _ hh
  | halt x w' => cases x <;> simp only [Oper.uponIn] at hh ⊢ <;> exact hh
theorem wpAnyIn_of_seq {Q' : Exit → Act → World → Prop} : ∀ (l' : List Oper) (k : Nat) (listed : Array Bool) (a : Act) (w : World), (∀ j, l'[j]? = ops[k + j]?) →
    Region.seqB md ops l'.length k listed = true → wpListIn (Fence.wide.inRound l) n P ops Q' l' a w → wpAnyIn (Fence.wide.inRound l) n P md ops Q' l'.length listed a w
  | [], _, _, _, _, _, hB, h => ⟨by simpa [Region.seqB] using hB, h⟩
  | o :: l', k, listed, a, w, hl, hB, h => by
    have h0 : ops[k]? = some o := by simpa using (hl 0).symm
    simp only [List.length_cons, Region.seqB, Bool.and_eq_true, decide_eq_true_eq] at hB
    refine ⟨fun h1 => (by rw [hB.1] at h1; cases h1), fun i hi => ?_⟩
    rw [hB.1] at hi
    have hik : i = k := by simpa using hi
    subst hik
    have ih : ∀ a' w', wpListIn (Fence.wide.inRound l) n P ops Q' l' a' w' → wpAnyIn (Fence.wide.inRound l) n P md ops Q' l'.length (listed.setIfInBounds i true) a' w' := fun a' w' h' => wpAnyIn_of_seq l' (i + 1) (listed.setIfInBounds i true) a' w' (fun j => by have := hl (j + 1); simpa [Nat.add_assoc, Nat.add_comm 1 j] using this) hB.2 h'
    unfold wpOpIn
    simp only [h0]
    simp only [wpListIn] at h
    split at h
    · rename_i hw
      rw [if_pos hw]
      exact ⟨h.1, uponIn_mono ih h.2⟩
    · rename_i hw
      rw [if_neg hw]
      exact ⟨h.1, ih _ _ h.2⟩
theorem wpIn_region_still_tail {id : Nat} {Q : Exit → Act → World → Prop} {a : Act} {L : List Oper} (m : Nat) (hm : P.follows .mixedOrders = true) (hB : Region.lexTailB .any L.toArray m = true) (hd : L.all (fun o => match o.op with | .defer _ => false | _ => true) = true)
    (h : wpStill P L.toArray { w with drawn := w.drawn + 1 } (fun a' => wpListIn (Fence.wide.inRound l) n P L.toArray Q (L.drop m) a' { w with drawn := w.drawn + 1 }) (L.take m) a) : (Code.region id L.toArray true).wpIn (Fence.wide.inRound l) n P Q a w := by
  simp only [Region.lexTailB, Bool.and_eq_true, decide_eq_true_eq] at hB
  obtain ⟨⟨⟨⟨hsel, hn⟩, hs⟩, hc⟩, hlex⟩ := hB
  have hn' : m < L.length := by simpa using hn
  have htl : (L.take m).length = m := by simp; omega
  have hdl : (L.drop m).length = L.toArray.size - m := by simp
  have hd' : ∀ (j : Nat) (o : Oper), L.toArray[j]? = some o → ∀ c, o.op ≠ .defer c := by
    intro j o ho c hc
    have := List.all_eq_true.1 hd o (by simpa using List.mem_of_getElem? (by simpa using ho))
    rw [hc] at this
    cases this
  have inv0 : HeadInv .any L.toArray m (Array.replicate L.toArray.size false) :=
    ⟨by simp, fun j oj _ hl => (by rw [getD_replicate_false] at hl; cases hl), fun t _ ht => getD_in (by simpa using ht) (getD_replicate_false _ _)⟩
  have H := wpAnyL_lex (md := .any) (g := L.toArray.size - m) hsel hs hc hn (L.take m) 0 _ a (fun j hj => by
    have hj' : j < m := by rw [htl] at hj; exact hj
    simp [hj']) (by simpa using htl) inv0 (by rw [htl]; exact hlex) h
  refine wpIn_region_any hm ?_
  have := wpAnyIn_of_head (Q' := Q) (g := L.toArray.size - m) hd' (fun listed a' hL => by
    have := wpAnyIn_of_seq (md := .any) (Q' := Q) (L.drop m) m listed a' { w with drawn := w.drawn + 1 } (fun j => by simp [List.getElem?_drop]) (by rw [hdl]; exact hL.1) hL.2
    rwa [hdl] at this) _ _ _ H
  rw [htl, show m + (L.toArray.size - m) = L.toArray.size by omega] at this
  exact this
end
end Go.Fol

/-! append to a slice without room, in words of what stands side by side. No program in sight. -/
namespace Go.Fol
open Go Go.RowKit
set_option linter.unusedVariables false
set_option linter.unusedSimpArgs false
section
variable {w0 w : World} {R : List Asrt}
theorem Owns.appFull {P : Program} {t e : TypeId} {i : TypeInfo} {z : Value} {k bytes : Nat} (ht : P.underlying t = some (.slice e)) (hi : P.info? e = some i) (hz : i.zero = some z)
    (hsize : i.size = k) (hby : i.bytes = bytes) (hzs : z.cells.size = k) (hsz : 0 < k) {a : Option Addr} {x : Value} {n m : Nat} {xs vs : List Value}
    (H : Owns w0 w R) (hs : SrcV w k (.slice a n n) n xs) (hv : SrcV w k x m vs) (hm : 0 < m) (h1 : ∀ u ∈ vs, u.oneCell' = true) (h63 : n + m ≤ maxLen) (hbytes : (n + m) * bytes ≤ 140737488355328) :
    ∃ v' w', (∀ ty, (Builtin.append_ #[t, t] ty #[.slice a n n, x]).run P w = .ok v' w') ∧ Owns w0 w' (Asrt.row e k v' (n + m) (xs ++ vs) :: R) := by
  rcases hv with ⟨_, h0, _⟩ | ⟨ax, c, rfl, hmc, hcm, hl, hcx⟩
  · omega
  have fin : ∀ v' w', (Builtin.append_ #[t, t] 0 #[.slice a n n, .slice (some ax) m c]).run P w = .ok v' w' → w'.ownsRow w.heap.size e k v' (n + m) (xs ++ vs) → w.grownBy w' none →
      ∃ v' w', (∀ ty, (Builtin.append_ #[t, t] ty #[.slice a n n, .slice (some ax) m c]).run P w = .ok v' w') ∧ Owns w0 w' (Asrt.row e k v' (n + m) (xs ++ vs) :: R) := fun v' w' hr ho hg =>
    ⟨v', w', fun _ => hr, H.new ((Chg.refl [] w).grown hg (fun _ h _ => by cases h)) ⟨_, ⟨rfl, (row_base ho).1⟩, fun b hb => (row_base ho).2 b (by simpa using hb)⟩⟩
  rcases hs with ⟨hv0, rfl, rfl⟩ | ⟨as, cs, e1, _, _, hls, hcs⟩
  · cases hv0
    obtain ⟨v', w', hr, ho, hg, _⟩ := run_append_own (P := P) w w.heap.size t 0 e i z k bytes ht hi hz hsize hby hzs hsz (.slice none 0 0) 0 [] (World.ownsRow_nil w _ e k) ax m c vs hl hcx h1 h63 hbytes (Nat.le_refl _)
    exact fin v' w' hr ho hg
  · cases e1
    obtain ⟨v', w', hr, ho, hg⟩ := run_append_arg_grows (P := P) w t 0 e i z k bytes ht hi hz hsize hby hzs hsz as n n xs hls hcs ax m c vs hl hcx (by omega) h63 hbytes
    exact fin v' w' hr ho hg
end
end Go.Fol

/-! A region that draws its order, in a round: the moves of OrdersHeld serve there too. No program in sight. -/
namespace Go.Fol
open Go Go.RowKit
set_option linter.unusedVariables false
set_option linter.unusedSimpArgs false
section
variable {P : Program} {l n : Nat} {ops : Array Oper} {md : Region.Mode}
/-- No row of the shelf is called. -/
def Oper.rowless (o : Oper) : Bool := match o.op with
  | .defer _ => false
  | _ => true
theorem rowsIn_round {row : String} {args : Array Value} {w : World} {R : Value → World → Prop} (h : Rows P row args w R) : RowsIn (Fence.wide.inRound l) n P row args w R :=
  fun c cs _ => let ⟨v, w', r, s⟩ := h c cs; ⟨v, w', r, stepsIn_wide.2 s⟩
theorem wpIn_of_wp {o : Oper} (hd : ∀ c, o.op ≠ .defer c) {a : Act} {w : World} {K : Act → World → Prop} {Q : Exit → Act → World → Prop} (h : o.wp P a w K Q) : o.wpIn (Fence.wide.inRound l) n P a w K Q := by
  unfold Oper.wp at h
  unfold Oper.wpIn
  refine ⟨fun f _ => trivial, ?_⟩
  rw [Oper.semAt_plain (Fence.wide.inRound l) _ _ hd]
  generalize (execOp a.eval o).run P w = r at *
  cases r with
  | ok x w' =>
    cases x <;> simp only [Oper.upon] at h <;> simp only [Oper.uponIn]
    case enter f args => exact ⟨(fun hs => by cases hs), (CallsIn.inRound l (callsIn_wide.2 h)).mono fun e w'' he => by cases e <;> exact he⟩
    case row r args => exact ⟨(fun hs => by cases hs), rowsIn_round h⟩
    all_goals exact h
  | halt x w' => cases x <;> simp only [Oper.upon] at h <;> simp only [Oper.uponIn] <;> exact h
theorem wpOpIn_of_wpOp (hd : ∀ (j : Nat) (o : Oper), ops[j]? = some o → ∀ c, o.op ≠ .defer c) {i : Nat} {a : Act} {w : World} {K : Act → World → Prop} {Q : Exit → Act → World → Prop} (hQ : ¬ LetsOut Q) (h : wpOp P ops Q i K a w) : wpOpIn (Fence.wide.inRound l) n P ops Q i K a w := by
  unfold wpOp at h
  unfold wpOpIn
  split
  · rename_i ho; simp only [ho] at h; exact h
  · rename_i o ho
    simp only [ho] at h
    split
    · rename_i hw; simp only [hw, if_true] at h; exact wpIn_of_wp (hd i o ho) (h.resolve_right (fun h' => hQ h'.2))
    · rename_i hw; simp only [hw] at h; exact ⟨fun f _ => trivial, h⟩
theorem wpAnyIn_of_any (hd : ∀ (j : Nat) (o : Oper), ops[j]? = some o → ∀ c, o.op ≠ .defer c) {Q : Exit → Act → World → Prop} (hQ : ¬ LetsOut Q) : ∀ (fuel : Nat) (listed : Array Bool) (a : Act) (w : World), wpAny P md ops Q fuel listed a w → wpAnyIn (Fence.wide.inRound l) n P md ops Q fuel listed a w
  | 0, _, _, _, h => h
  | fuel + 1, _, _, _, h => ⟨h.1, fun i hi => wpOpIn_mono (fun a' w' h' => wpAnyIn_of_any hd hQ fuel _ a' w' h') (wpOpIn_of_wpOp hd hQ (h.2 i hi))⟩
/-- How a region in a round is left: whole. -/
def Whole (K : Act → World → Prop) : Exit → Act → World → Prop
  | .normal, a, w => K a w
  | _, _, _ => False
theorem wpIn_region_held_round {id : Nat} {Q : Exit → Act → World → Prop} {S : World → Prop} {a : Act} {w : World} (hm : P.follows .mixedOrders = true) (hd : ops.toList.all Oper.rowless = true) (hS : S w.drew)
    (h : S w.drew → wpAnyH P .any ops (Whole (Q .normal)) S ops.size (Array.replicate ops.size false) a w.drew) : (Code.region id ops true).wpIn (Fence.wide.inRound l) n P Q a w := by
  refine wpIn_mono (wpIn_region_any hm (wpAnyIn_of_any (Q := Whole (Q .normal)) ?_ ?_ _ _ _ _ (wpAny_of_held _ _ _ _ (h hS)))) ?_
  · intro j o ho c hc
    have := List.all_eq_true.1 hd o (Array.mem_toList_iff.2 (Array.mem_of_getElem? ho))
    rw [Oper.rowless, hc] at this
    cases this
  · rintro ⟨_, _, h⟩
    exact h
  · rintro (_ | _ | _ | _ | _ | _) a w h <;> first | exact h | exact h.elim
end
end Go.Fol

/-! A region that draws its order, in a round, whose last operation may write what is held: the moves. No program in sight. -/
namespace Go.Fol
open Go Go.RowKit
set_option linter.unusedVariables false
set_option linter.unusedSimpArgs false
section
variable {P : Program} {l n : Nat} {ops : Array Oper} {Q : Exit → Act → World → Prop} {md : Region.Mode} {S : World → Prop} {e : Nat}
/-- Whatever order is picked from here on, and S holds behind every operation that is carried out, as long as the e-th has not come up. -/
def wpAnyT (P : Program) (md : Region.Mode) (ops : Array Oper) (Q : Exit → Act → World → Prop) (S : World → Prop) (e : Nat) : Nat → Array Bool → Act → World → Prop
  | 0, listed, a, w => Region.ready md ops listed = [] ∧ Q .normal a w
  | fuel + 1, listed, a, w =>
    (Region.ready md ops listed = [] → Q .normal a w) ∧
    ∀ i ∈ Region.ready md ops listed, wpOp P ops Q i (fun a' w' => ((listed.setIfInBounds i true).getD e true = false → S w') ∧ wpAnyT P md ops Q S e fuel (listed.setIfInBounds i true) a' w') a w
theorem wpAny_of_T : ∀ (fuel : Nat) (listed : Array Bool) (a : Act) (w : World), wpAnyT P md ops Q S e fuel listed a w → wpAny P md ops Q fuel listed a w
  | 0, _, _, _, h => h
  | fuel + 1, _, _, _, h => ⟨h.1, fun i hi => wpOp_mono (fun a' w' h' => wpAny_of_T fuel _ a' w' h'.2) (h.2 i hi)⟩
/-- Each waits for the one before. -/
def chainB (md : Region.Mode) (ops : Array Oper) : Nat → List Nat → Bool
  | _, [] => true
  | i, j :: r => (match ops[j]? with | some o => o.after.any (fun x => Region.binds md x && x.on == i) | none => false) && chainB md ops j r
/-- None of them has come up. -/
def noneB (listed : Array Bool) (r : List Nat) : Bool := r.all (fun j => !(listed.getD j true))
theorem chain_not_ready {listed : Array Bool} : ∀ (r : List Nat) (i : Nat), chainB md ops i r = true → listed.getD i true = false → noneB listed r = true → ∀ j ∈ r, j ∉ Region.ready md ops listed
  | [], _, _, _, _ => fun j hj => by cases hj
  | k :: r, i, hc, hi, hn => by
    simp only [chainB, Bool.and_eq_true] at hc
    simp only [noneB, List.all_cons, Bool.and_eq_true, Bool.not_eq_true'] at hn
    intro j hj
    rcases List.mem_cons.1 hj with rfl | hj
    · intro hr
      obtain ⟨_, o, ho, hall⟩ := mem_ready.1 hr
      have h1 := hc.1
      simp only [ho, Array.any_eq_true, Bool.and_eq_true, beq_iff_eq] at h1
      obtain ⟨x, hx, hb, hon⟩ := h1
      have h2 := hall _ (Array.getElem_mem hx) hb
      rw [hon] at h2
      rcases Nat.lt_or_ge i listed.size with h' | h'
      · simp [h'] at h2 hi; rw [h2] at hi; cases hi
      · simp [Array.getElem?_eq_none h'] at hi
    · exact chain_not_ready r k hc.2 hn.1 hn.2 j hj
theorem noneB_set {listed : Array Bool} {r : List Nat} {j : Nat} (h : noneB listed r = true) (hj : j ∉ r) : noneB (listed.setIfInBounds j true) r = true := by
  simp only [noneB, List.all_eq_true, Bool.not_eq_true'] at h ⊢
  intro k hk
  rw [getD_set_ne true (fun e => hj (by rw [e]; exact hk))]
  exact h k hk
theorem noneB_mem {listed : Array Bool} {r : List Nat} {j : Nat} (h : noneB listed r = true) (hj : j ∈ r) : listed.getD j true = false := by
  simp only [noneB, List.all_eq_true, Bool.not_eq_true'] at h
  exact h j hj
theorem wpAnyT_first {i : Nat} {oi : Oper} {v : Value} (r : List Nat) (hc : chainB md ops i r = true) (her : e ∈ r) (hi : ops[i]? = some oi) (hsel : ∀ (j : Nat) (o : Oper) cs b, ops[j]? = some o → o.op ≠ .select cs b)
    (hQ : ∀ c a w, Q (.panic c) (a.put oi.dst v) w → Q (.panic c) a w) :
    ∀ (fuel : Nat) (listed : Array Bool) (a : Act) (w : World),
      (∀ j oj, ops[j]? = some oj → j ≠ i → listed.getD j true = false → (∀ e ∈ oj.after, Region.binds md e = true → e.on ≠ i) → oi.apart ops oj = true) →
      i ∈ Region.ready md ops listed → noneB listed r = true → YieldsIf P ops S oi v a → S w →
      wpAnyT P md ops Q S e fuel (listed.setIfInBounds i true) (a.put oi.dst v) w → wpAnyT P md ops Q S e (fuel + 1) listed a w := by
  intro fuel
  induction fuel with
  | zero =>
    intro listed a w _ hr hn hy hS H
    refine ⟨fun h => (by rw [h] at hr; cases hr), fun j hj => ?_⟩
    by_cases hji : j = i
    · subst hji; exact hy.wpOp hi hS ⟨fun _ => hS, H⟩
    · have := ready_mono hj hji
      rw [H.1] at this
      cases this
  | succ fuel ih =>
    intro listed a w hfree hr hn hy hS H
    refine ⟨fun h => (by rw [h] at hr; cases hr), fun j hj => ?_⟩
    by_cases hji : j = i
    · subst hji; exact hy.wpOp hi hS ⟨fun _ => hS, H⟩
    · have h1 := H.2 j (ready_mono hj hji)
      obtain ⟨hjun, oj, hoj, hall⟩ := mem_ready.1 hj
      have hjr : j ∉ r := fun hm => chain_not_ready r i hc (mem_ready.1 hr).1 hn j hm hj
      have hn' := noneB_set hn hjr
      have hnot : ∀ x ∈ oj.after, Region.binds md x = true → x.on ≠ i := fun x he hb heq => by
        have h1 := hall x he hb
        have h0 := (mem_ready.1 hr).1
        rw [heq] at h1
        rcases Nat.lt_or_ge i listed.size with h' | h'
        · simp [h'] at h0 h1; rw [h0] at h1; cases h1
        · simp [Array.getElem?_eq_none h'] at h1
      have h2 := wpOp_putIf hoj (hfree j oj hoj hji hjun hnot) (fun cs b => hsel i oi cs b hi) (fun cs b => hsel j oj cs b hoj) hQ hy h1
      have hfree' : ∀ k ok, ops[k]? = some ok → k ≠ i → (listed.setIfInBounds j true).getD k true = false →
          (∀ x ∈ ok.after, Region.binds md x = true → x.on ≠ i) → oi.apart ops ok = true := fun k ok hk hki hun hno => by
        refine hfree k ok hk hki ?_ hno
        by_cases hjk : j = k
        · subst hjk; exact hjun
        · rw [getD_set_ne true hjk] at hun; exact hun
      refine wpOp_mono (fun a' w' h3 => ?_) h2
      obtain ⟨hy', hS', hW⟩ := h3
      have hei : i ≠ e := fun h => by
        subst h
        have := mem_ready.1 hr
        exact chain_not_ready r i hc this.1 hn i her hr
      have hSw : S w' := hS' (by
        rw [Array.setIfInBounds_comm _ _ (Ne.symm hji), getD_set_ne true hei]
        exact noneB_mem hn' her)
      exact ⟨fun _ => hSw, ih (listed.setIfInBounds j true) a' w' hfree' (ready_mono hr (Ne.symm hji)) hn' hy' hSw (by rw [Array.setIfInBounds_comm _ _ hji]; exact hW)⟩
/-- Take number i first. -/
theorem wpAnyT_take {i : Nat} {oi : Oper} {v : Value} {fuel : Nat} {listed : Array Bool} {a : Act} {w : World} (r : List Nat) (hi : ops[i]? = some oi)
    (hk : (Region.noSelect ops && Region.free md ops listed i && (Region.ready md ops listed).contains i && chainB md ops i r && noneB listed r && r.contains e) = true)
    (hQ : ∀ c a w, Q (.panic c) (a.put oi.dst v) w → Q (.panic c) a w) (hy : YieldsIf P ops S oi v a) (hS : S w)
    (h : wpAnyT P md ops Q S e fuel (listed.setIfInBounds i true) (a.put oi.dst v) w) : wpAnyT P md ops Q S e (fuel + 1) listed a w := by
  simp only [Bool.and_eq_true] at hk
  obtain ⟨⟨⟨⟨⟨h1, h2⟩, h3⟩, h4⟩, h5⟩, h6⟩ := hk
  exact wpAnyT_first r h4 (by simpa using h6) hi (Region.noSelect_spec h1) hQ fuel listed a w (Region.free_spec hi h2) (by simpa using h3) h5 hy hS h
/-- The one that comes up, ahead of the e-th. -/
theorem wpAnyT_step {i : Nat} {o : Oper} {fuel : Nat} {listed : Array Bool} {a : Act} {w : World} (hi : ops[i]? = some o) (hr : Region.ready md ops listed = [i])
    (h : ∀ K' : Act → World → Prop, Shut (∀ a w, S w → (S w → wpAnyT P md ops Q S e fuel (listed.setIfInBounds i true) a w) → K' a w) → if Region.wanted o (yielded ops a.tmps) = true then Oper.wp P o a w K' Q else K' (a.put o.dst undef) w) : wpAnyT P md ops Q S e (fuel + 1) listed a w := by
  refine ⟨fun h0 => (by rw [hr] at h0; cases h0), fun j hj => ?_⟩
  rw [hr] at hj
  obtain rfl : j = i := by simpa using hj
  exact wpOp_step hi (fun K' hK => h K' (fun a w hS hW => hK a w ⟨fun _ => hS, hW hS⟩))
/-- The e-th, or one behind it. -/
theorem wpAnyT_last {i : Nat} {o : Oper} {fuel : Nat} {listed : Array Bool} {a : Act} {w : World} (hi : ops[i]? = some o) (hr : Region.ready md ops listed = [i]) (hl : (listed.setIfInBounds i true).getD e true = true)
    (h : ∀ K' : Act → World → Prop, Shut (∀ a w, wpAnyT P md ops Q S e fuel (listed.setIfInBounds i true) a w → K' a w) → if Region.wanted o (yielded ops a.tmps) = true then Oper.wp P o a w K' Q else K' (a.put o.dst undef) w) : wpAnyT P md ops Q S e (fuel + 1) listed a w := by
  refine ⟨fun h0 => (by rw [hr] at h0; cases h0), fun j hj => ?_⟩
  rw [hr] at hj
  obtain rfl : j = i := by simpa using hj
  exact wpOp_step hi (fun K' hK => h K' (fun a w hW => hK a w ⟨fun h0 => (by rw [hl] at h0; cases h0), hW⟩))
theorem wpAnyT_done {listed : Array Bool} {a : Act} {w : World} (hr : Region.ready md ops listed = []) (h : Q .normal a w) : ∀ fuel, wpAnyT P md ops Q S e fuel listed a w
  | 0 => ⟨hr, h⟩
  | _ + 1 => ⟨fun _ => h, by rw [hr]; simp⟩
theorem wpIn_region_T {id : Nat} {a : Act} {w : World} (S : World → Prop) (e : Nat) (hm : P.follows .mixedOrders = true) (hd : ops.toList.all Oper.rowless = true) (hS : S w.drew)
    (h : S w.drew → wpAnyT P .any ops (Whole (Q .normal)) S e ops.size (Array.replicate ops.size false) a w.drew) : (Code.region id ops true).wpIn (Fence.wide.inRound l) n P Q a w := by
  refine wpIn_mono (wpIn_region_any hm (wpAnyIn_of_any (Q := Whole (Q .normal)) ?_ ?_ _ _ _ _ (wpAny_of_T _ _ _ _ (h hS)))) ?_
  · intro j o ho c hc
    have := List.all_eq_true.1 hd o (Array.mem_toList_iff.2 (Array.mem_of_getElem? ho))
    rw [Oper.rowless, hc] at this
    cases this
  · rintro ⟨_, _, h⟩
    exact h
  · rintro (_ | _ | _ | _ | _ | _) a w h <;> first | exact h | exact h.elim
/-- The same beginning outside of rounds. -/
theorem wp_region_T {id : Nat} {a : Act} {w : World} (S : World → Prop) (e : Nat) (hm : P.follows .mixedOrders = true) (hS : S w.drew)
    (h : S w.drew → wpAnyT P .any ops (Whole (Q .normal)) S e ops.size (Array.replicate ops.size false) a w.drew) : (Code.region id ops true).wp P Q a w := by
  refine wp_mono (wp_region_any hm (wpAny_of_T _ _ _ _ (h hS))) ?_
  rintro (_ | _ | _ | _ | _ | _) a w h <;> first | exact h | exact h.elim
theorem wp_append_run {o : Oper} {a : Act} {w : World} {K : Act → World → Prop}
    (d x : Operand) (dT sT : TypeId) (v u : Value) {v' : Value} {w' : World} (hr : (Builtin.append_ #[dT, sT] o.type #[v, u]).run P w = .ok v' w') (hop : o.op = Op.call { callee := Callee.builtin Builtin.append, args := #[d, x], argTypes := #[dT, sT] })
    (hd : a.eval d = v) (hx : a.eval x = u) (hK : K (a.put o.dst v') w') : Oper.wp P o a w K Q := by
  unfold Oper.wp execOp
  simp only [hop, resolve, invoke, builtin, Sem.run_bind, Sem.run_pure, Result.andThen_ok, List.map_toArray, List.map_cons, List.map_nil, hd, hx, hr]
  exact hK
end
end Go.Fol

/-! One more move for a region that draws its order (HeldIn2): an operation that yields its value in every world, wherever it stands. No program in sight. -/
namespace Go.Fol
open Go Go.RowKit
set_option linter.unusedVariables false
set_option linter.unusedSimpArgs false
section
variable {P : Program} {l n : Nat} {ops : Array Oper} {Q : Exit → Act → World → Prop} {md : Region.Mode} {S : World → Prop} {e : Nat}
theorem wpAnyT_firstP {i : Nat} {oi : Oper} {v : Value} (hie : i ≠ e) (hi : ops[i]? = some oi) (hsel : ∀ (j : Nat) (o : Oper) cs b, ops[j]? = some o → o.op ≠ .select cs b)
    (hQ : ∀ c a w, Q (.panic c) (a.put oi.dst v) w → Q (.panic c) a w) :
    ∀ (fuel : Nat) (listed : Array Bool) (a : Act) (w : World),
      (∀ j oj, ops[j]? = some oj → j ≠ i → listed.getD j true = false → (∀ e ∈ oj.after, Region.binds md e = true → e.on ≠ i) → oi.apart ops oj = true) →
      i ∈ Region.ready md ops listed → YieldsIf P ops (fun _ => True) oi v a → (listed.getD e true = false → S w) →
      wpAnyT P md ops Q S e fuel (listed.setIfInBounds i true) (a.put oi.dst v) w → wpAnyT P md ops Q S e (fuel + 1) listed a w := by
  intro fuel
  induction fuel with
  | zero =>
    intro listed a w _ hr hy hS H
    refine ⟨fun h => (by rw [h] at hr; cases hr), fun j hj => ?_⟩
    by_cases hji : j = i
    · subst hji; exact hy.wpOp hi trivial ⟨fun h => hS (by rw [getD_set_ne true hie] at h; exact h), H⟩
    · have := ready_mono hj hji
      rw [H.1] at this
      cases this
  | succ fuel ih =>
    intro listed a w hfree hr hy hS H
    refine ⟨fun h => (by rw [h] at hr; cases hr), fun j hj => ?_⟩
    by_cases hji : j = i
    · subst hji; exact hy.wpOp hi trivial ⟨fun h => hS (by rw [getD_set_ne true hie] at h; exact h), H⟩
    · have h1 := H.2 j (ready_mono hj hji)
      obtain ⟨hjun, oj, hoj, hall⟩ := mem_ready.1 hj
      have hnot : ∀ x ∈ oj.after, Region.binds md x = true → x.on ≠ i := fun x he hb heq => by
        have h1 := hall x he hb
        have h0 := (mem_ready.1 hr).1
        rw [heq] at h1
        rcases Nat.lt_or_ge i listed.size with h' | h'
        · simp [h'] at h0 h1; rw [h0] at h1; cases h1
        · simp [Array.getElem?_eq_none h'] at h1
      have h2 := wpOp_putIf hoj (hfree j oj hoj hji hjun hnot) (fun cs b => hsel i oi cs b hi) (fun cs b => hsel j oj cs b hoj) hQ hy h1
      have hfree' : ∀ k ok, ops[k]? = some ok → k ≠ i → (listed.setIfInBounds j true).getD k true = false →
          (∀ x ∈ ok.after, Region.binds md x = true → x.on ≠ i) → oi.apart ops ok = true := fun k ok hk hki hun hno => by
        refine hfree k ok hk hki ?_ hno
        by_cases hjk : j = k
        · subst hjk; exact hjun
        · rw [getD_set_ne true hjk] at hun; exact hun
      refine wpOp_mono (fun a' w' h3 => ?_) h2
      obtain ⟨hy', hS', hW⟩ := h3
      have hSw : (listed.setIfInBounds j true).getD e true = false → S w' := fun h => hS' (by
        rw [Array.setIfInBounds_comm _ _ (Ne.symm hji), getD_set_ne true hie]
        exact h)
      exact ⟨hSw, ih (listed.setIfInBounds j true) a' w' hfree' (ready_mono hr (Ne.symm hji)) hy' hSw (by rw [Array.setIfInBounds_comm _ _ hji]; exact hW)⟩
/-- Take number i first, whatever the world. -/
theorem wpAnyT_takeP {i : Nat} {oi : Oper} {v : Value} {fuel : Nat} {listed : Array Bool} {a : Act} {w : World} (hi : ops[i]? = some oi)
    (hk : (Region.noSelect ops && Region.free md ops listed i && (Region.ready md ops listed).contains i && !(i == e)) = true)
    (hQ : ∀ c a w, Q (.panic c) (a.put oi.dst v) w → Q (.panic c) a w) (hy : YieldsIf P ops (fun _ => True) oi v a) (hS : S w)
    (h : wpAnyT P md ops Q S e fuel (listed.setIfInBounds i true) (a.put oi.dst v) w) : wpAnyT P md ops Q S e (fuel + 1) listed a w := by
  simp only [Bool.and_eq_true, Bool.not_eq_true', beq_eq_false_iff_ne, ne_eq] at hk
  obtain ⟨⟨⟨h1, h2⟩, h3⟩, h4⟩ := hk
  exact wpAnyT_firstP h4 hi (Region.noSelect_spec h1) hQ fuel listed a w (Region.free_spec hi h2) (by simpa using h3) hy (fun _ => hS) h
/-- Two that may come up: the e-th, and one that keeps S. -/
theorem wpAnyT_two {i j : Nat} {oi oj : Oper} {fuel : Nat} {listed : Array Bool} {a : Act} {w : World} (hi : ops[i]? = some oi) (hj : ops[j]? = some oj) (hr : Region.ready md ops listed = [i, j]) (hl : (listed.setIfInBounds i true).getD e true = true)
    (h1 : ∀ K' : Act → World → Prop, Shut (∀ a w, wpAnyT P md ops Q S e fuel (listed.setIfInBounds i true) a w → K' a w) → if Region.wanted oi (yielded ops a.tmps) = true then Oper.wp P oi a w K' Q else K' (a.put oi.dst undef) w)
    (h2 : ∀ K' : Act → World → Prop, Shut (∀ a w, S w → (S w → wpAnyT P md ops Q S e fuel (listed.setIfInBounds j true) a w) → K' a w) → if Region.wanted oj (yielded ops a.tmps) = true then Oper.wp P oj a w K' Q else K' (a.put oj.dst undef) w) : wpAnyT P md ops Q S e (fuel + 1) listed a w := by
  refine ⟨fun h0 => (by rw [hr] at h0; cases h0), fun k hk => ?_⟩
  rw [hr] at hk
  rcases (by simpa using hk : k = i ∨ k = j) with h | h
  · subst h
    exact wpOp_step hi (fun K' hK => h1 K' (fun a w hW => hK a w ⟨fun h0 => (by rw [hl] at h0; cases h0), hW⟩))
  · subst h
    exact wpOp_step hj (fun K' hK => h2 K' (fun a w hS hW => hK a w ⟨fun _ => hS, hW hS⟩))
end
end Go.Fol

/-! A range over an iterator, what the iterator reads kept: the law of RangeO, with these blocks handed back. No program in sight. -/
namespace Go.Fol
open Go Go.RowKit
set_option linter.unusedVariables false
set_option linter.unusedSimpArgs false

theorem wp_range_own3 {P : Program} {g : Operand} {ps : Array Tmp} {assign body : Code} {Q : Exit → Act → World → Prop} {a : Act} {w w0 : World}
    {gf : Nat} {lb : Array Value} (hg : a.eval g = .func (.func gf) #[] lb) (eg : ∀ args w, (callFunc gf args).run P w = .ok (.enter gf args) w)
    {encs : Nat → Array Value} {S : List Nat} {N : Nat} (hseq : SeqList P gf lb encs S N w) (hps : ∀ x, (encs x).size = ps.size)
    {R : List Asrt} (A : Nat → Asrt) (A' : Nat → Act → Asrt) (Ax : Code → Asrt) (H : Owns w0 w (A 0 :: Asrt.same w S :: R))
    (hassign : ∀ (l k : Nat) (W : World) (K : Act → World → Prop) (Z : Asrt), k < N → Owns w0 W (A k :: Z :: R) → (∀ a' W', Owns w0 W' (A' k a' :: Z :: R) → K a' W') →
      assign.wpIn (Fence.wide.inRound l) 8 P (Exit.then K (fun _ _ _ => False)) { tmps := (ps.zip (encs k)).foldl (fun t (p, v) => t.setIfInBounds p v) a.tmps, defers := [] } W)
    (hbody : ∀ (l k : Nat) (a' : Act) (W : World) (Z : Asrt), k < N → Owns w0 W (A' k a' :: Z :: R) → body.wpIn (Fence.wide.inRound l) 8 P (roundOwn w0 (Z :: R) (A (k + 1)) Ax) a' W)
    (hdone : ∀ (D : Nat) (W : World), Owns w0 W (A N :: Asrt.mark D :: Asrt.same w S :: R) → Q .normal { a with defers := mark D :: a.defers } W)
    (hstop : ∀ (D : Nat) (c : Code) (W : World), Owns w0 W (Ax c :: Asrt.mark D :: Asrt.same w S :: R) → c.wp P Q { a with defers := mark D :: a.defers } W) :
    (Code.rangeFunc g ps assign body).wp P Q a w := by
  refine (wpIn_wide (n := 10)).1 ?_
  refine wpIn_rangeFunc ?_
  intro fn hfn
  obtain ⟨rec, hrec⟩ : ∃ rec : LoopState → Option Code → Loop, rec = fun st pe => { state := st, pending := pe, fn, tmps := a.tmps, params := ps, assign, body, defers := w.heap.size } := ⟨_, rfl⟩
  obtain ⟨W1, hW1⟩ : ∃ W1, (w.alloc (.deferred (some []))).alloc (.loop (rec .ready none)) = W1 := ⟨_, rfl⟩
  obtain ⟨L, hL⟩ : ∃ L, L = w.heap.size + 1 := ⟨_, rfl⟩
  have hc1 : Chg [] w W1 := by rw [← hW1]; exact ((Chg.refl [] w).alloc _).alloc _
  have H1 : Owns w0 W1 (A 0 :: Asrt.obj L (.loop (rec .ready none)) :: Asrt.mark w.heap.size :: Asrt.same w S :: R) := by
    rw [← hW1, hL]
    have := (H.allocO (.deferred (some []))).allocO (.loop (rec .ready none))
    rw [World.size_alloc] at this
    exact this.p2
  have hlS : ∀ c ∈ S, c < w.heap.size := by
    obtain ⟨F, ⟨_, h⟩, _⟩ := H.p1.head
    exact fun c hc => (h c hc).1
  have same : ∀ {W : World} {X : List Asrt}, Owns w0 W X → Asrt.same w S ∈ X → ∀ c ∈ S, W.heap[c]? = w.heap[c]? := fun {W X} HX hm c hc => by
    obtain ⟨F, ⟨_, h⟩, _⟩ := (HX.mem hm).head
    exact (h c hc).2
  refine ⟨w.heap.size + 1, [mark w.heap.size], W1, { target := .fn (.func gf) lb, args := #[.func (.yield (w.heap.size + 1)) #[] #[]] }, W1, gf,
    #[.func (.yield (w.heap.size + 1)) #[] #[]] ++ lb, W1, ?_, ?_, ?_, ?_, (fun h => by cases h), ?_⟩
  · rw [← hW1, hrec]; exact run_enterLoop_outer _ _ _ _ _
  · simp only [resolve, hg]
    simp [go_sem]
  · intro f' _; trivial
  · simp [invoke, go_sem, eg]
  · rw [← hL]
    refine (hseq L
      (fun k W => Owns w0 W (A k :: Asrt.obj L (.loop (rec .ready none)) :: Asrt.mark w.heap.size :: Asrt.same w S :: R))
      (fun W => ∃ c, Owns w0 W (Ax c :: Asrt.obj L (.loop (rec .done (some c))) :: Asrt.mark w.heap.size :: Asrt.same w S :: R))
      W1 (hc1.keepB (fun c hc => ⟨hlS c hc, fun h => by cases h⟩)) hc1.size
      (fun k A B h hc => h.quiet hc) (fun A B ⟨c, h⟩ hc => ⟨c, h.quiet hc⟩) ?_ H1).mono ?_
    · -- one round
      intro k W hk HJ
      have hl := HJ.p1.obj
      have hy := run_yield (P := P) (args := encs k) hl (by rw [hrec]; exact hps k)
      rw [hrec] at hy
      refine ⟨fn, _, assign, body, hy, roundIn_of_wpIn hfn (hassign _ k W _ (Asrt.all [Asrt.obj L (.loop (rec .ready none)), Asrt.mark w.heap.size, Asrt.same w S]) hk (Owns.allI (L := [_, _, _]) HJ.q3).p1 ?_)⟩
      intro a' Wa HA
      have HA4 : Owns w0 Wa (Asrt.obj L (.loop (rec .ready none)) :: Asrt.mark w.heap.size :: Asrt.same w S :: A' k a' :: R) := Owns.allE (L := [_, _, _]) HA.p1
      have hl := HA4.obj
      refine ⟨_, run_beginRound hl (by rw [hrec]), ?_⟩
      have Hb := (HA4.putObj (.loop { rec .ready none with state := .busy })).p3
      obtain ⟨Wb, hWb⟩ : ∃ Wb, Wa.putObj L (.loop { rec .ready none with state := .busy }) = Wb := ⟨_, rfl⟩
      rw [hWb] at Hb ⊢
      have HZ : Owns w0 Wb (A' k a' :: Asrt.all [Asrt.obj L (.loop { rec .ready none with state := .busy }), Asrt.mark w.heap.size, Asrt.same w S] :: R) := (Owns.allI (L := [_, _, _]) Hb.q3).p1
      refine wpIn_mono (hbody _ k a' Wb _ hk HZ) ?_
      have fin : ∀ (X : Asrt) (jump : Option Code) (W3 : World), Owns w0 W3 (X :: Asrt.all [Asrt.obj L (.loop { rec .ready none with state := .busy }), Asrt.mark w.heap.size, Asrt.same w S] :: R) →
          (Instr.endRound L jump).run P W3 = .ok (.bool jump.isNone) (W3.putObj L (.loop (rec (if jump.isNone then .ready else .done) jump))) ∧
          Owns w0 (W3.putObj L (.loop (rec (if jump.isNone then .ready else .done) jump))) (X :: Asrt.obj L (.loop (rec (if jump.isNone then .ready else .done) jump)) :: Asrt.mark w.heap.size :: Asrt.same w S :: R) := fun X jump W3 H3 => by
        have H4 : Owns w0 W3 (Asrt.obj L (.loop { rec .ready none with state := .busy }) :: Asrt.mark w.heap.size :: Asrt.same w S :: X :: R) := Owns.allE (L := [_, _, _]) H3.p1
        have := run_endRound (P := P) jump H4.obj
        rw [hrec] at this H4 ⊢
        exact ⟨this, (H4.putObj _).p3⟩
      rintro e a3 W3 hp
      cases e with
      | normal =>
        obtain ⟨hr, H4⟩ := fin _ none W3 hp
        exact ⟨_, _, hr, .inl ⟨rfl, H4, fun c hc => (same H4 (by simp) c hc).trans (same HJ (by simp) c hc).symm⟩⟩
      | ret =>
        obtain ⟨hr, H4⟩ := fin _ (some .ret) W3 hp
        exact ⟨_, _, hr, .inr ⟨rfl, .ret, H4⟩⟩
      | exit id =>
        obtain ⟨hr, H4⟩ := fin _ (some (.exit id)) W3 hp
        exact ⟨_, _, hr, .inr ⟨rfl, .exit id, H4⟩⟩
      | goto t => exact hp.elim
      | panic ch => exact hp.elim
      | outgrown => exact hp.elim
    · -- behind the iterator
      rintro e W2 ⟨⟨v, rfl⟩, (HJ | ⟨c, HJ⟩)⟩
      · have hl := HJ.p1.obj
        have hr := run_endLoop (P := P) hl (by rw [hrec]; simp)
        rw [hrec] at hr
        exact ⟨none, _, hr, hdone _ _ ((HJ.p1.putObj _).drop)⟩
      · have hl := HJ.p1.obj
        have hr := run_endLoop (P := P) hl (by rw [hrec]; simp)
        rw [hrec] at hr
        exact ⟨some c, _, hr, wpIn_wide.2 (hstop _ c _ ((HJ.p1.putObj _).drop))⟩
end Go.Fol

/-! Strings as lists of bytes; conversions; put together; cut. No program in sight. -/
namespace Go.Fol
open Go Go.RowKit
set_option linter.unusedVariables false
set_option linter.unusedSimpArgs false
/-- bytes as a string, as numbers. -/
def bs (l : List UInt8) : ByteArray := ⟨l.toArray⟩
def bn (l : List UInt8) : List Int := l.map (fun b => (b.toNat : Int))
/-- numbers as bytes. -/
def nb (l : List Int) : List UInt8 := l.map (fun n => UInt8.ofNat n.toNat)
def bytesN (l : List Int) : Prop := ∀ x ∈ l, 0 ≤ x ∧ x ≤ 255
theorem bn_len (l : List UInt8) : (bn l).length = l.length := by simp [bn]
theorem nb_len (l : List Int) : (nb l).length = l.length := by simp [nb]
theorem bs_size (l : List UInt8) : (bs l).size = l.length := by simp [bs, ByteArray.size]
theorem bs_of (s : ByteArray) : s = bs s.data.toList := by simp [bs]
theorem bs_toList (l : List UInt8) : (bs l).toList = l := by rw [ByteArray.toList_eq]; simp [bs]
theorem bs_inj {a b : List UInt8} : bs a = bs b ↔ a = b := ⟨fun h => by rw [← bs_toList a, h, bs_toList], fun h => by rw [h]⟩
theorem bs_data (l : List UInt8) : (bs l).data.toList = l := by simp [bs]
theorem bn_append (a b : List UInt8) : bn (a ++ b) = bn a ++ bn b := by simp [bn]
theorem nb_append (a b : List Int) : nb (a ++ b) = nb a ++ nb b := by simp [nb]
theorem bn_nb {l : List Int} (h : bytesN l) : bn (nb l) = l := by
  induction l with
  | nil => rfl
  | cons x l ih =>
    have hx := h x (by simp)
    simp only [nb, bn, List.map_cons, List.map_map] at ih ⊢
    rw [List.cons.injEq]
    refine ⟨?_, by simpa using ih (fun y hy => h y (by simp [hy]))⟩
    simp
    omega
theorem nb_bn (l : List UInt8) : nb (bn l) = l := by
  induction l with
  | nil => rfl
  | cons x l ih =>
    simp only [nb, bn, List.map_cons, List.map_map] at ih ⊢
    rw [List.cons.injEq]
    exact ⟨by simp, by simpa using ih⟩
theorem bytesN_bn (l : List UInt8) : bytesN (bn l) := by
  intro x hx
  obtain ⟨b, _, rfl⟩ := List.mem_map.1 hx
  have := b.toNat_lt
  omega
theorem bytesN_append {a b : List Int} (ha : bytesN a) (hb : bytesN b) : bytesN (a ++ b) := fun x hx => (List.mem_append.1 hx).elim (ha x) (hb x)
theorem bs_extract (l : List UInt8) (a b : Nat) : (bs l).extract a b = bs ((l.drop a).take (b - a)) := by
  apply ByteArray.ext
  simp only [bs, ByteArray.data_extract]
  apply Array.toList_inj.1
  simp [List.drop_take]
theorem bs_pre (l : List UInt8) (k : Nat) : (bs l).extract 0 k = bs (l.take k) := by rw [bs_extract]; simp
theorem bs_suf (l : List UInt8) (k : Nat) : (bs l).extract k l.length = bs (l.drop k) := by rw [bs_extract, List.take_of_length_le (by simp)]
theorem run_bs_cat {P : Program} {a b : List UInt8} (h : a.length + b.length ≤ 2000000) (w : World) : (Op.stringOp .add (bs a) (bs b)).run P w = .ok (.string (bs (a ++ b))) w := by
  rw [run_string_add w _ _ (by rw [bs_size]; omega) (by rw [bs_size]; omega)]
  exact congrArg (fun x => Result.ok (Value.string x) w) (by apply ByteArray.ext; simp [bs])
theorem bs_cat (a b : List UInt8) : bs a ++ bs b = bs (a ++ b) := by apply ByteArray.ext; simp [bs]
theorem bs_ne {l : List UInt8} (h : l ≠ []) : ¬ (bs l).toList = [] ∧ (bs l).toList.isEmpty = false := by
  rw [bs_toList]
  cases l with
  | nil => exact absurd rfl h
  | cons _ _ => exact ⟨by simp, rfl⟩
section
variable {P : Program} {w0 w : World} {R : List Asrt} {tS tB tb : TypeId}
/-- string(b), b a row of bytes. -/
theorem run_bytes_str (hB : P.underlying tB = some (.slice tb)) (hb : P.underlying tb = some (.int .u8)) (hS : P.underlying tS = some .string) {v : Value} {l : List UInt8} {n : Nat} (h : SrcV w 1 v n (kints .u8 (bn l))) :
    (convert tB tS v).run P w = .ok (.string (bs l)) w := by
  rcases h with ⟨rfl, rfl, e⟩ | ⟨a, c, rfl, h1, h2, h3, h4⟩
  · have hl : l = [] := by
      cases l with
      | nil => rfl
      | cons x l => simp [kints, bn] at e
    subst hl
    exact Lib.run_convert_nil_bytes w tB tS tb 0 hB hb hS
  · have hn : n = l.length := by simpa [kints, bn] using h3.symm
    subst hn
    exact run_convert_bytes_back w tB tS tb a c l hB hb hS (fun j hj => h4 j _ (by simp [kints, bn, hj]))
/-- []byte(s). -/
theorem Owns.bytesOf (hB : P.underlying tB = some (.slice tb)) (hb : P.underlying tb = some (.int .u8)) (hS : P.underlying tS = some .string) {l : List UInt8} (hl : l.length ≤ 2000000) (H : Owns w0 w R) :
    ∃ v w', (convert tS tB (.string (bs l))).run P w = .ok v w' ∧ Owns w0 w' (Asrt.src 1 v l.length (kints .u8 (bn l)) :: R) := by
  have hr := run_bytes_of_string (P := P) w tS tB tb (bs l) hS hB hb
  rw [bs_size] at hr
  obtain ⟨cap, hcap⟩ : ∃ c, c = grownCap w l.length 0 tb := ⟨_, rfl⟩
  have hge := grownCap_ge w l.length 0 tb
  have hle := grownCap_le_maxLen w l.length 0 tb (by unfold maxLen; omega)
  rw [← hcap] at hr hge hle
  refine ⟨_, _, hr, (H.drew).new ((Chg.refl [] _).alloc _) ?_⟩
  by_cases h0 : l.length = 0
  · exact ⟨[], ⟨.inl ⟨h0, rfl⟩, .inr ⟨_, _, rfl, hge, hle, by simp [kints, bn], fun j u hj => by
      have hl0 : l = [] := List.eq_nil_of_length_eq_zero h0
      subst hl0
      simp [kints, bn] at hj⟩⟩, by simp⟩
  · refine ⟨[w.heap.size], ⟨.inr ⟨by omega, by decide, rfl⟩, .inr ⟨_, _, rfl, hge, hle, by simp [kints, bn], fun j u hj => ?_⟩⟩, by simp⟩
    rw [Addr.add_lit, Nat.zero_add]
    refine cell_of_heap (heap_alloc_new _ _) ?_
    have hj' : j < l.length := by
      have := (List.getElem?_eq_some_iff.1 hj).1
      simpa [kints, bn] using this
    simp only [kints, bn, List.map_map] at hj
    rw [List.getElem?_map, List.getElem?_eq_getElem hj'] at hj
    cases hj
    unfold bytesRow
    rw [Array.getElem?_append_left (by simp [bs]; exact hj')]
    simp [bs, hj']
/-- The same, the block itself: of the bytes, with what may lie behind. -/
theorem Owns.bytesObj (hB : P.underlying tB = some (.slice tb)) (hb : P.underlying tb = some (.int .u8)) (hS : P.underlying tS = some .string) {l : List UInt8} (hl : l.length ≤ 2000000) (H : Owns w0 w R) :
    ∃ (cap : Nat) (cs : Array Value) (w' : World), l.length ≤ cap ∧ cap ≤ maxLen ∧ cs.size = cap ∧ cs.toList.take l.length = kints .u8 (bn l) ∧ (convert tS tB (.string (bs l))).run P w = .ok (.slice (some ⟨w.heap.size, 0, none⟩) l.length cap) w' ∧ Owns w0 w' (Asrt.obj w.heap.size (.cells cs tb (cap, cap + 1)) :: R) := by
  have hr := run_bytes_of_string (P := P) w tS tB tb (bs l) hS hB hb
  rw [bs_size] at hr
  obtain ⟨cap, hcap⟩ : ∃ c, c = grownCap w l.length 0 tb := ⟨_, rfl⟩
  have hge := grownCap_ge w l.length 0 tb
  have hle := grownCap_le_maxLen w l.length 0 tb (by unfold maxLen; omega)
  rw [← hcap] at hr hge hle
  have hsz : (bytesRow (bs l) cap).size = cap := by
    unfold bytesRow
    rw [Array.size_append, Array.size_map, Array.size_replicate, bs_size]
    show (bs l).size + _ = _
    rw [bs_size]
    omega
  rw [hsz] at hr
  refine ⟨cap, bytesRow (bs l) cap, _, hge, hle, hsz, ?_, hr, (H.drew).allocO _⟩
  unfold bytesRow
  rw [Array.toList_append, List.take_left' (by simp [bs])]
  simp [bs, kints, bn]
theorem Owns.srcOfObj {b n c : Nat} {cs : Array Value} {t : TypeId} {f : Nat × Nat} (H : Owns w0 w (Asrt.obj b (.cells cs t f) :: R)) (hn : n ≤ c) (hc : c ≤ maxLen) (hl : n ≤ cs.size) :
    Owns w0 w (Asrt.src 1 (.slice (some ⟨b, 0, none⟩) n c) n (cs.toList.take n) :: R) := by
  have hr := Reads.obj (w0 := w0) (R := Asrt.obj b (.cells cs t f) :: R) (k := 1) (n := n) (c := c) List.mem_cons_self hn hc (by omega) w H
  rw [Nat.mul_one] at hr
  refine H.step1 (fun F ⟨e1, h⟩ _ => ?_)
  subst e1
  by_cases h0 : n = 0
  · exact ⟨Chg.refl _ _, [], ⟨.inl ⟨h0, rfl⟩, hr⟩, fun b hb => by cases hb⟩
  · exact ⟨Chg.refl _ _, [b], ⟨.inr ⟨by omega, by decide, rfl⟩, hr⟩, fun b hb => .inl hb⟩
theorem frozen_mark {b j m : Nat} {cs : Array Value} {t : TypeId} (h : w.heap[b]? = some (.cells cs t (m, m + 1))) (hj : j < m) : w.frozen? ⟨b, j, none⟩ = false := by
  simp [World.frozen?, h]
  omega
end
end Go.Fol

/-! Rows of things of several cells: one cell set, the last let go; all of a list, one picked. No program in sight. -/
namespace Go.Fol
open Go Go.RowKit
set_option linter.unusedVariables false
set_option linter.unusedSimpArgs false
section
variable {w0 w : World} {R : List Asrt} {e : TypeId} {k n : Nat} {v : Value} {xs : List Value}
theorem Owns.rowAt (H : Owns w0 w (Asrt.row e k v n xs :: R)) (hn : 0 < n) : ∃ g cap, v = .slice (some ⟨g, 0, none⟩) n cap ∧ n ≤ cap ∧ cap ≤ maxLen ∧ (∀ q y, xs[q]? = some y → w.cell? ⟨g, q, none⟩ = some y) ∧ (∀ q, w.frozen? ⟨g, q, none⟩ = false) := by
  have hrow := H.row
  rcases row_form hrow with ⟨_, rfl, _⟩ | ⟨g, cap, cur, rfl, hg, hnc, hm, hcs, htk, hxl⟩
  · omega
  · refine ⟨g, cap, rfl, hnc, hm, fun q y hq => ?_, fun q => frozen_of_heap hg q⟩
    have := hrow.cells (g := g) rfl q y hq
    rwa [Addr.add_lit, Nat.zero_add] at this
theorem Owns.rowPut {g cap q : Nat} (H : Owns w0 w (Asrt.row e k (.slice (some ⟨g, 0, none⟩) n cap) n xs :: R)) (hq : q < n * k) (x : Value) :
    Owns w0 (w.setCell ⟨g, q, none⟩ x) (Asrt.row e k (.slice (some ⟨g, 0, none⟩) n cap) n (xs.set q x) :: R) := by
  have hrow := H.row
  rcases row_form hrow with ⟨h, _⟩ | ⟨g', cap', cur, h, hg, hnc, hm, hcs, htk, hxl⟩
  · cases h
  cases h
  refine H.step1 (fun F ⟨e1, h⟩ _ => ?_)
  subst e1
  refine ⟨(Chg.refl _ w).setCell (fun _ => by simp [Value.ownBlock]) x, _, ⟨rfl, by simpa using hxl, .inr ⟨g, cap, _, rfl, Nat.zero_le _, heap_set_same hg x, hnc, hm, by simpa using hcs, ?_⟩⟩, fun b hb => .inl hb⟩
  simp only [Array.toList_setIfInBounds]
  rw [← htk, List.take_set]
/-- The first m of them. -/
theorem Owns.rowPre {a : Option Addr} {cap m : Nat} (H : Owns w0 w (Asrt.row e k (.slice a n cap) n xs :: R)) (hm : m ≤ n) :
    Owns w0 w (Asrt.row e k (.slice a m cap) m (xs.take (m * k)) :: R) := by
  have hrow := H.row
  refine H.step1 (fun F ⟨e1, h⟩ _ => ?_)
  subst e1
  rcases row_form hrow with ⟨h, h2, h3⟩ | ⟨g', cap', cur, h, hg, hnc, hcm, hcs, htk, hxl⟩
  · cases h
    obtain rfl : m = 0 := by omega
    exact ⟨Chg.refl _ _, _, ⟨rfl, by simp, .inl ⟨rfl, rfl⟩⟩, fun b hb => by simp [Value.ownBlock] at hb⟩
  · cases h
    have hmk : m * k ≤ n * k := Nat.mul_le_mul_right k hm
    refine ⟨Chg.refl _ _, _, ⟨rfl, ?_, .inr ⟨g', cap, cur, rfl, Nat.zero_le _, hg, by omega, hcm, hcs, ?_⟩⟩, fun b hb => .inl hb⟩
    · rw [List.length_take, hxl]; omega
    · rw [← htk, List.take_take, Nat.min_eq_left hmk]
end
theorem SrcV.fullCap {w : World} {k n c : Nat} {a : Option Addr} {xs : List Value} (h : SrcV w k (.slice a n c) n xs) : SrcV w k (.slice a n n) n xs := by
  rcases h with ⟨e, h0, h1⟩ | ⟨b, d, e, h1, h2, h3, h4⟩
  · cases e
    exact .inl ⟨rfl, h0, h1⟩
  · cases e
    exact .inr ⟨b, n, rfl, Nat.le_refl _, by omega, h3, h4⟩
theorem SrcV.capLe {w : World} {k n c : Nat} {a : Option Addr} {xs : List Value} (h : SrcV w k (.slice a n c) n xs) : n ≤ c := by
  rcases h with ⟨e, h0, h1⟩ | ⟨b, d, e, h1, h2, h3, h4⟩
  · cases e; exact Nat.le_refl _
  · cases e; exact h1
section
variable {w0 w : World} {R : List Asrt}
theorem perm_pick_l {α : Type} : ∀ (L : List α) (i : Nat) (h : i < L.length), L.Perm (L[i] :: L.eraseIdx i)
  | [], i, h => by simp at h
  | A :: L, 0, _ => List.Perm.refl _
  | A :: L, i + 1, h => by
    simp only [List.getElem_cons_succ, List.eraseIdx_cons_succ]
    exact ((perm_pick_l L i (by simpa using h)).cons A).trans (List.Perm.swap ..)
/-- All of a list: taken apart, put together, one looked at. -/
theorem allSplit {α : Type} (f : α → Asrt) {A B : List α} (H : Owns w0 w (Asrt.all ((A ++ B).map f) :: R)) : Owns w0 w (Asrt.all (A.map f) :: Asrt.all (B.map f) :: R) := by
  have h := Owns.allE H
  rw [List.map_append, List.append_assoc] at h
  have h1 := Owns.allI (L := B.map f) (R := A.map f ++ R) (h.perm (by rw [← List.append_assoc, ← List.append_assoc]; exact List.Perm.append_right _ List.perm_append_comm))
  exact Owns.allI (L := A.map f) (h1.perm List.perm_middle.symm)
theorem allJoin {α : Type} (f : α → Asrt) {A B : List α} (H : Owns w0 w (Asrt.all (A.map f) :: Asrt.all (B.map f) :: R)) : Owns w0 w (Asrt.all ((A ++ B).map f) :: R) := by
  refine Owns.allI ?_
  have h := Owns.allE (L := A.map f) H
  have h2 := Owns.allE (L := B.map f) (R := A.map f ++ R) (h.perm (List.perm_middle))
  rw [List.map_append]
  refine h2.perm ?_
  rw [← List.append_assoc]
  exact List.Perm.append_right _ List.perm_append_comm
theorem allOne {α : Type} (f : α → Asrt) {x : α} (H : Owns w0 w (f x :: R)) : Owns w0 w (Asrt.all ([x].map f) :: R) := Owns.allI (L := [f x]) H
theorem allNil {α : Type} (f : α → Asrt) (H : Owns w0 w R) : Owns w0 w (Asrt.all (([] : List α).map f) :: R) := Owns.allI (L := []) H
theorem allMem {α : Type} (f : α → Asrt) {L : List α} {x : α} (h : Asrt.all (L.map f) ∈ R) (hx : x ∈ L) (H : Owns w0 w R) : Owns w0 w [f x] := by
  have h1 := Owns.allE (L := L.map f) (R := []) (H.mem h)
  exact h1.mem (A := f x) (by simp; exact ⟨x, hx, rfl⟩)
theorem allDropLast {α : Type} (f : α → Asrt) {A : List α} {x : α} (H : Owns w0 w (Asrt.all ((A ++ [x]).map f) :: R)) : Owns w0 w (Asrt.all (A.map f) :: R) := (allSplit f H).p1.drop
end
end Go.Fol

/-! A slice of integers that lies inside another value, read (no program in sight). -/
namespace Go.Fol
open Go Go.RowKit
set_option linter.unusedVariables false
variable {P : Program}
theorem src_of_parts {w : World} {e : TypeId} {a : Option Addr} {n c : Nat} (h2 : n ≤ c) (h3 : c ≤ maxLen) (h1 : a = none → n = 0 ∧ c = 0) (h5 : RowAt P w e 1 a n) :
    ∃ xs : List Value, SrcV w 1 (.slice a n c) n xs ∧ ∀ x ∈ xs, Rd P w e [x] := by
  by_cases hn : 0 < n
  · obtain ⟨b, off, rfl', hb, hel⟩ := h5 hn
    cases rfl'
    have hex : ∀ m, m ≤ n → ∃ xs : List Value, xs.length = m ∧ (∀ j u, xs[j]? = some u → w.cell? ⟨b, off + j, none⟩ = some u) ∧ ∀ x ∈ xs, Rd P w e [x] := by
      intro m
      induction m with
      | zero => exact fun _ => ⟨[], rfl, by simp, by simp⟩
      | succ m ih =>
        intro hm
        obtain ⟨xs, hl, hc, hr⟩ := ih (by omega)
        obtain ⟨es, he, hrd, hce⟩ := hel m (by omega)
        obtain ⟨x, rfl⟩ : ∃ x, es = [x] := by
          match es, he with
          | [x], _ => exact ⟨x, rfl⟩
        refine ⟨xs ++ [x], by simp [hl], fun j u hj => ?_, fun y hy => ?_⟩
        · by_cases hjm : j < m
          · rw [List.getElem?_append_left (by omega)] at hj
            exact hc j u hj
          · have hjl := (List.getElem?_eq_some_iff.1 hj).1
            simp [hl] at hjl
            obtain rfl : j = m := by omega
            rw [List.getElem?_append_right (by omega), hl] at hj
            simp at hj
            subst hj
            have := hce 0 _ rfl
            simpa using this
        · rcases List.mem_append.1 hy with h | h
          · exact hr y h
          · simp at h; subst h; exact hrd
    obtain ⟨xs, hl, hc, hr⟩ := hex n (Nat.le_refl _)
    exact ⟨xs, .inr ⟨_, _, rfl, h2, h3, by simp [hl], fun j u hj => by rw [Addr.add_lit]; exact hc j u hj⟩, hr⟩
  · obtain rfl : n = 0 := by omega
    cases a with
    | none => obtain ⟨_, rfl⟩ := h1 rfl; exact ⟨[], .inl ⟨rfl, rfl, rfl⟩, by simp⟩
    | some a => exact ⟨[], .inr ⟨_, _, rfl, h2, h3, rfl, by simp⟩, by simp⟩
theorem rd_kind {w : World} {t e : TypeId} {cs : List Value} {kd : IntKind} (ht : P.underlying t = some (.slice e)) (he : P.underlying e = some (.int kd)) (hk : P.cellsOf e = 1) (h : Rd P w t cs) :
    ∃ (l : List Int) (a : Option Addr) (c : Nat), cs = [.slice a l.length c] ∧ SrcV w 1 (.slice a l.length c) l.length (kints kd l) ∧ ∀ x ∈ l, (Lit.int kd x).wf = true := by
  obtain ⟨a, n, c, rfl, h1, h2, h3, h4, h5⟩ := rd_slice ht hk (by decide) h
  obtain ⟨xs, hs, hr⟩ := src_of_parts h2 h3 h1 h5
  have hex : ∀ ys : List Value, (∀ x ∈ ys, Rd P w e [x]) → ∃ l : List Int, ys = kints kd l ∧ ∀ x ∈ l, (Lit.int kd x).wf = true := by
    intro ys
    induction ys with
    | nil => exact fun _ => ⟨[], rfl, by simp⟩
    | cons y ys ih =>
      intro hy
      obtain ⟨l, rfl, hl⟩ := ih (fun x hx => hy x (List.mem_cons_of_mem _ hx))
      obtain ⟨m, hm, hw⟩ := rd_int he (hy y (List.mem_cons_self ..))
      simp at hm
      subst hm
      exact ⟨m :: l, rfl, by simpa using ⟨hw, hl⟩⟩
  obtain ⟨l, rfl, hl⟩ := hex xs hr
  have := hs.len
  simp [kints_len] at this
  subst this
  exact ⟨l, a, c, rfl, hs, hl⟩
end Go.Fol
