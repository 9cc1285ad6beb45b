/- Ranging over a list by a function value (slices.All, slices.Backward over a clone): an iterator's word, one law at the plain walk, and how a function that ranges so leaves. No program in sight. -/
import Derived.Test.YtchgkdhhfbppbaaCells
import Derived.RangeFuncNested
import Derived.RangeFuncBound
import Derived.RangeFuncCalls
import Derived.RangeFuncLeaves
import Derived.RangeFuncBox
namespace Go.Fol
open Go Go.RowKit
set_option linter.unusedVariables false
set_option linter.unusedSimpArgs false

/-- the iterator's own blocks lie as they lay. -/
def KeepB (S : List Nat) (W W' : World) : Prop := ∀ c ∈ S, W'.heap[c]? = W.heap[c]?
theorem keepB_t {S : List Nat} {A B C : World} (h : KeepB S A B) (k : KeepB S B C) : KeepB S A C := fun c hc => (k c hc).trans (h c hc)
theorem Chg.keepB {S T : List Nat} {W W' : World} (h : Chg T W W') (hS : ∀ c ∈ S, c < W.heap.size ∧ c ∉ T) : KeepB S W W' := fun c hc => h.block c (hS c hc).1 (hS c hc).2

/-- Nothing but new blocks, and blocks from B on that are no cells. -/
def Quiet (B : Nat) (W W' : World) : Prop := ∃ T, Chg T W W' ∧ ∀ r ∈ T, B ≤ r ∧ ∃ o : Obj, W.heap[r]? = some o ∧ o.isCells = false
theorem Quiet.of_nil {B : Nat} {W W' : World} (h : Chg [] W W') : Quiet B W W' := ⟨[], h, fun _ h => by cases h⟩
theorem chg_putObj (W : World) (l : Nat) (o : Obj) : Chg [l] W (W.putObj l o) := ⟨rfl, rfl, rfl, by simp, fun k _ hk => World.putObj_heap_other (fun e => hk (by simp [e]))⟩
theorem Quiet.putObj {B l : Nat} {W : World} {o : Obj} (o' : Obj) (hB : B ≤ l) (hl : W.heap[l]? = some o) (ho : o.isCells = false) : Quiet B W (W.putObj l o') :=
  ⟨[l], chg_putObj W l o', fun r hr => by simp at hr; subst hr; exact ⟨hB, o, hl, ho⟩⟩
/-- Cells lie as they lay where all is quiet. -/
theorem Quiet.heap {B : Nat} {W W' : World} (h : Quiet B W W') {k : Nat} {c : Array Value} {e : TypeId} {f : Nat × Nat} (hk : W.heap[k]? = some (.cells c e f)) : W'.heap[k]? = some (.cells c e f) := by
  obtain ⟨T, hc, hT⟩ := h
  refine hc.heap hk (fun hm => ?_)
  obtain ⟨_, o, ho, hn⟩ := hT k hm
  rw [hk] at ho
  cases ho
  cases hn
theorem Quiet.cell {B : Nat} {W W' : World} (h : Quiet B W W') {a : Addr} {v : Value} (hk : W.cell? a = some v) : W'.cell? a = some v := by
  unfold World.cell? at hk ⊢
  split at hk
  · rename_i c e f hc
    rw [h.heap hc]
    exact hk
  · cases hk
theorem Quiet.row {B : Nat} {w w' : World} {e : TypeId} {k : Nat} {v : Value} {n : Nat} {xs : List Value} (g : Quiet B w w') (h : w.ownsRow 0 e k v n xs) : w'.ownsRow 0 e k v n xs := by
  refine ⟨h.1, ?_⟩
  rcases h.2 with h2 | ⟨b, cap, cur, rfl, hb, hh, r⟩
  · exact .inl h2
  · exact .inr ⟨b, cap, cur, rfl, hb, g.heap hh, r⟩
theorem Quiet.vec {B : Nat} {w w' : World} {vt e : TypeId} {k p : Nat} {sv : Value} {n : Nat} {xs : List Value} (g : Quiet B w w') (h : VecAt w vt e k p sv n xs) : VecAt w' vt e k p sv n xs :=
  ⟨g.heap h.obj, g.row h.row, h.ne⟩
theorem Quiet.chg {B : Nat} {S : List Nat} {a W W' : World} (g : Quiet B W W') (h : Chg S a W) (hB : a.heap.size ≤ B) : Chg S a W' := by
  obtain ⟨T, hc, hT⟩ := g
  exact h.trans hc (fun k hk hlt => absurd (Nat.lt_of_lt_of_le hlt (Nat.le_trans hB (hT k hk).1)) (Nat.lt_irrefl _))
theorem Quiet.low {B : Nat} {W W' : World} (g : Quiet B W W') {k : Nat} {o : Obj} (hk : k < B) (ho : W.heap[k]? = some o) : W'.heap[k]? = some o := by
  obtain ⟨T, hc, hT⟩ := g
  exact hc.heap ho (fun hm => Nat.lt_irrefl _ (Nat.lt_of_lt_of_le hk (hT k hm).1))
theorem Quiet.size {B : Nat} {W W' : World} (g : Quiet B W W') : W.heap.size ≤ W'.heap.size := by obtain ⟨T, hc, _⟩ := g; exact hc.size

/-- What a round may change: cells that lay, and new blocks; nothing of the iterator's. -/
def BodyOk (S : List Nat) (W W' : World) : Prop := ∃ T, Chg T W W' ∧ (∀ k ∈ T, k < W.heap.size → ∃ c e f, W.heap[k]? = some (.cells c e f)) ∧ (∀ c ∈ S, c < W.heap.size ∧ c ∉ T)
theorem BodyOk.same {S : List Nat} {W W' : World} (h : BodyOk S W W') {k : Nat} {o : Obj} (hk : W.heap[k]? = some o) (ho : o.isCells = false) : W'.heap[k]? = some o := by
  obtain ⟨T, hc, hT, _⟩ := h
  refine hc.heap hk (fun hm => ?_)
  obtain ⟨c, e, f, h⟩ := hT k hm (heap_lt hk)
  rw [h] at hk
  cases hk
  cases ho
theorem BodyOk.keep {S : List Nat} {W W' : World} (h : BodyOk S W W') : KeepB S W W' := by
  obtain ⟨T, hc, _, hS⟩ := h
  exact hc.keepB hS
theorem BodyOk.size {S : List Nat} {W W' : World} (h : BodyOk S W W') : W.heap.size ≤ W'.heap.size := by obtain ⟨T, hc, _⟩ := h; exact hc.size
theorem BodyOk.refl {S : List Nat} {W : World} (hS : ∀ c ∈ S, c < W.heap.size) : BodyOk S W W := ⟨[], Chg.refl _ _, (fun _ h => by cases h), fun c hc => ⟨hS c hc, (fun h => by cases h)⟩⟩

/-- How the body of a round may be left. -/
def roundEnd (S : List Nat) (W : World) (I : World → Prop) (Ix : Code → World → Prop) : Exit → Act → World → Prop
  | .normal, _, W' => BodyOk S W W' ∧ I W'
  | .ret, _, W' => BodyOk S W W' ∧ Ix .ret W'
  | .exit id, _, W' => BodyOk S W W' ∧ Ix (.exit id) W'
  | _, _, _ => False

/-- AN ITERATOR's WORD: it hands out 'encs 0', .., 'encs (N - 1)', in this order, whatever a round does that leaves the iterator's own blocks S as they are; or a round has said 'no more'. -/
def SeqList (P : Program) (gf : Nat) (lb : Array Value) (encs : Nat → Array Value) (S : List Nat) (N : Nat) (w0 : World) : Prop :=
  ∀ (l : Nat) (J : Nat → World → Prop) (Jx : World → Prop) (W : World), KeepB S w0 W → w0.heap.size ≤ W.heap.size → (∀ k W1 W2, J k W1 → Chg [] W1 W2 → J k W2) → (∀ W1 W2, Jx W1 → Chg [] W1 W2 → Jx W2) →
    (∀ k W1, k < N → J k W1 → YieldAt Fence.wide 8 P l (encs k) W1 fun e W' => (e = .returned (.bool true) ∧ J (k + 1) W' ∧ KeepB S W1 W') ∨ (e = .returned (.bool false) ∧ Jx W')) → J 0 W →
    CallsIn Fence.wide 9 P gf (#[.func (.yield l) #[] #[]] ++ lb) W fun e W' => (∃ v, e = .returned v) ∧ (J N W' ∨ Jx W')

/-- The mark that a range over a function leaves among the deferred calls. -/
def mark (D : Nat) : Deferred := { target := .collected D, args := #[] }

/-- A RANGE OVER SUCH AN ITERATOR, AT THE PLAIN WALK. -/
theorem wp_range_list {P : Program} {g : Operand} {ps : Array Tmp} {assign body : Code} {Q : Exit → Act → World → Prop} {a : Act} {w : World}
    {gf : Nat} {lb : Array Value} (hg : a.eval g = .func (.func gf) #[] lb) (eg : ∀ args w, (callFunc gf args).run P w = .ok (.enter gf args) w)
    {encs : Nat → Array Value} {S : List Nat} {N : Nat} (hseq : SeqList P gf lb encs S N w) (hS : ∀ c ∈ S, c < w.heap.size) (hps : ∀ x, (encs x).size = ps.size)
    (I : Nat → World → Prop) (Ix : Code → World → Prop) (Ax : Nat → Act → World → Prop)
    (hI : ∀ k W W', I k W → Quiet w.heap.size W W' → I k W') (hIx : ∀ c W W', Ix c W → Quiet w.heap.size W W' → Ix c W') (hAx : ∀ k a' W W', Ax k a' W → Quiet w.heap.size W W' → Ax k a' W') (h0 : I 0 w)
    (hassign : ∀ (l k : Nat) (W : World) (K : Act → World → Prop), k < N → I k W → (∀ c ∈ S, c < W.heap.size) → (∀ a' W', BodyOk S W W' → I k W' → Ax k a' W' → K a' W') →
      assign.wpIn (Fence.wide.inRound l) 8 P (Exit.then K (fun _ _ _ => False)) { tmps := (ps.zip (encs k)).foldl (fun t (p, v) => t.setIfInBounds p v) a.tmps, defers := [] } W)
    (hbody : ∀ (l k : Nat) (a' : Act) (W : World), k < N → I k W → Ax k a' W → (∀ c ∈ S, c < W.heap.size) → body.wpIn (Fence.wide.inRound l) 8 P (roundEnd S W (I (k + 1)) Ix) a' W)
    (hdone : ∀ (D : Nat) (W : World), w.heap.size ≤ D → I N W → W.heap[D]? = some (.deferred (some [])) → Q .normal { a with defers := mark D :: a.defers } W)
    (hstop : ∀ (D : Nat) (c : Code) (W : World), w.heap.size ≤ D → Ix c W → W.heap[D]? = some (.deferred (some [])) → c.wp P Q { a with defers := mark D :: a.defers } W) :
    (Code.rangeFunc g ps assign body).wp P Q a w := by
  refine (wpIn_wide (n := 10)).1 ?_
  refine wpIn_rangeFunc ?_
  intro fn hfn
  obtain ⟨rec, hrec⟩ : ∃ rec : LoopState → Option Code → Loop, rec = fun st pe => { state := st, pending := pe, fn, tmps := a.tmps, params := ps, assign, body, defers := w.heap.size } := ⟨_, rfl⟩
  obtain ⟨W1, hW1⟩ : ∃ W1, (w.alloc (.deferred (some []))).alloc (.loop (rec .ready none)) = W1 := ⟨_, rfl⟩
  have hc1 : Chg [] w W1 := by rw [← hW1]; exact ((Chg.refl [] w).alloc _).alloc _
  have hL1 : W1.heap[w.heap.size + 1]? = some (.loop (rec .ready none)) := by
    rw [← hW1]; have := World.alloc_heap_new (w.alloc (.deferred (some []))) (.loop (rec .ready none)); rwa [World.size_alloc] at this
  have hK1 : W1.heap[w.heap.size]? = some (.deferred (some [])) := by
    rw [← hW1]; exact (Below.heap_alloc _ _ _ (by simp)).trans (World.alloc_heap_new w _)
  refine ⟨w.heap.size + 1, [mark w.heap.size], W1, { target := .fn (.func gf) lb, args := #[.func (.yield (w.heap.size + 1)) #[] #[]] }, W1, gf,
    #[.func (.yield (w.heap.size + 1)) #[] #[]] ++ lb, W1, ?_, ?_, ?_, ?_, (fun h => by cases h), ?_⟩
  · rw [← hW1, hrec]; exact run_enterLoop_outer _ _ _ _ _
  · simp only [resolve, hg]
    simp [go_sem]
  · intro f' _; trivial
  · simp [invoke, go_sem, eg]
  · refine (hseq (w.heap.size + 1)
      (fun k W => I k W ∧ W.heap[w.heap.size + 1]? = some (.loop (rec .ready none)) ∧ W.heap[w.heap.size]? = some (.deferred (some [])) ∧ (∀ c ∈ S, c < W.heap.size))
      (fun W => ∃ c, Ix c W ∧ W.heap[w.heap.size + 1]? = some (.loop (rec .done (some c))) ∧ W.heap[w.heap.size]? = some (.deferred (some [])))
      W1 (hc1.keepB (fun c hc => ⟨hS c hc, fun h => by cases h⟩)) hc1.size
      (fun k A B ⟨h1, h2, h3, h4⟩ hc => ⟨hI _ _ _ h1 (Quiet.of_nil hc), hc.heap h2 (fun h => by cases h), hc.heap h3 (fun h => by cases h), fun c hc' => Nat.lt_of_lt_of_le (h4 c hc') hc.size⟩)
      (fun A B ⟨c, h1, h2, h3⟩ hc => ⟨c, hIx _ _ _ h1 (Quiet.of_nil hc), hc.heap h2 (fun h => by cases h), hc.heap h3 (fun h => by cases h)⟩)
      ?_ ⟨hI _ _ _ h0 (Quiet.of_nil hc1), hL1, hK1, fun c hc => Nat.lt_of_lt_of_le (hS c hc) hc1.size⟩).mono ?_
    · -- one round
      rintro k W hk ⟨hi, hl, hd, hs⟩
      have hy := run_yield (P := P) (args := encs k) hl (by rw [hrec]; exact hps k)
      rw [hrec] at hy
      refine ⟨fn, _, assign, body, hy, roundIn_of_wpIn hfn (hassign _ k W _ hk hi hs ?_)⟩
      intro a' Wa hb hia hax
      have hla := hb.same hl rfl
      have hda := hb.same hd rfl
      have hsa : ∀ c ∈ S, c < Wa.heap.size := fun c hc => Nat.lt_of_lt_of_le (hs c hc) hb.size
      have hlt : w.heap.size + 1 < Wa.heap.size := heap_lt hla
      refine ⟨_, run_beginRound hla (by rw [hrec]), ?_⟩
      obtain ⟨Wb, hWb⟩ : ∃ Wb, Wa.putObj (w.heap.size + 1) (.loop { rec .ready none with state := .busy }) = Wb := ⟨_, rfl⟩
      have hq : Quiet w.heap.size Wa Wb := by rw [← hWb]; exact Quiet.putObj _ (by omega) hla rfl
      have hkb1 : KeepB S Wa Wb := by
        rw [← hWb]
        exact (chg_putObj Wa _ _).keepB (fun c hc => ⟨hsa c hc, fun hm => by simp at hm; have := hS c hc; omega⟩)
      have hlb : Wb.heap[w.heap.size + 1]? = some (.loop { rec .ready none with state := .busy }) := by rw [← hWb]; exact World.putObj_heap_same hlt
      have hdb : Wb.heap[w.heap.size]? = some (.deferred (some [])) := by rw [← hWb]; exact (World.putObj_heap_other (by omega)).trans hda
      have hsb : ∀ c ∈ S, c < Wb.heap.size := fun c hc => Nat.lt_of_lt_of_le (hsa c hc) hq.size
      rw [hWb]
      refine wpIn_mono (hbody _ k a' Wb hk (hI _ _ _ hia hq) (hAx _ _ _ _ hax hq) hsb) ?_
      have fin : ∀ (jump : Option Code) (W3 : World), BodyOk S Wb W3 →
          (Instr.endRound (w.heap.size + 1) jump).run P W3 = .ok (.bool jump.isNone) (W3.putObj (w.heap.size + 1) (.loop (rec (if jump.isNone then .ready else .done) jump))) ∧
          Quiet w.heap.size W3 (W3.putObj (w.heap.size + 1) (.loop (rec (if jump.isNone then .ready else .done) jump))) ∧
          (W3.putObj (w.heap.size + 1) (.loop (rec (if jump.isNone then .ready else .done) jump))).heap[w.heap.size + 1]? = some (.loop (rec (if jump.isNone then .ready else .done) jump)) ∧
          (W3.putObj (w.heap.size + 1) (.loop (rec (if jump.isNone then .ready else .done) jump))).heap[w.heap.size]? = some (.deferred (some [])) ∧
          KeepB S W (W3.putObj (w.heap.size + 1) (.loop (rec (if jump.isNone then .ready else .done) jump))) ∧
          (∀ c ∈ S, c < (W3.putObj (w.heap.size + 1) (.loop (rec (if jump.isNone then .ready else .done) jump))).heap.size) := fun jump W3 hb3 => by
        have hl3 := hb3.same hlb rfl
        have hs3 : ∀ c ∈ S, c < W3.heap.size := fun c hc => Nat.lt_of_lt_of_le (hsb c hc) hb3.size
        have := run_endRound (P := P) jump hl3
        rw [hrec] at this ⊢
        refine ⟨this, Quiet.putObj _ (by omega) hl3 rfl, World.putObj_heap_same (heap_lt hl3), (World.putObj_heap_other (by omega)).trans (hb3.same hdb rfl), ?_, ?_⟩
        · refine keepB_t (keepB_t (keepB_t hb.keep hkb1) hb3.keep) ((chg_putObj W3 _ _).keepB (fun c hc => ⟨hs3 c hc, fun hm => ?_⟩))
          simp at hm
          have := hS c hc
          omega
        · intro c hc
          rw [World.putObj_size]
          exact hs3 c hc
      rintro e a3 W3 hp
      cases e with
      | normal =>
        obtain ⟨hb3, hi3⟩ := hp
        obtain ⟨hr, hq3, hl4, hk4, hkp, hs4⟩ := fin none W3 hb3
        exact ⟨_, _, hr, .inl ⟨rfl, ⟨hI _ _ _ hi3 hq3, hl4, hk4, hs4⟩, hkp⟩⟩
      | ret =>
        obtain ⟨hb3, hi3⟩ := hp
        obtain ⟨hr, hq3, hl4, hk4, hkp, hs4⟩ := fin (some .ret) W3 hb3
        exact ⟨_, _, hr, .inr ⟨rfl, .ret, hIx _ _ _ hi3 hq3, hl4, hk4⟩⟩
      | exit id =>
        obtain ⟨hb3, hi3⟩ := hp
        obtain ⟨hr, hq3, hl4, hk4, hkp, hs4⟩ := fin (some (.exit id)) W3 hb3
        exact ⟨_, _, hr, .inr ⟨rfl, .exit id, hIx _ _ _ hi3 hq3, hl4, hk4⟩⟩
      | goto t => exact hp.elim
      | panic ch => exact hp.elim
      | outgrown => exact hp.elim
    · -- behind the iterator
      rintro e W2 ⟨⟨v, rfl⟩, (⟨hi, hl, hk, _⟩ | ⟨c, hi, hl, hk⟩)⟩
      · refine ⟨none, _, by have := run_endLoop (P := P) hl (by rw [hrec]; simp); rw [hrec] at this; exact this, hdone _ _ (Nat.le_refl _) (hI _ _ _ hi (Quiet.putObj _ (by omega) hl rfl)) ((World.putObj_heap_other (by omega)).trans hk)⟩
      · refine ⟨some c, _, by have := run_endLoop (P := P) hl (by rw [hrec]; simp); rw [hrec] at this; exact this, wpIn_wide.2 (hstop _ c _ (Nat.le_refl _) (hIx _ _ _ hi (Quiet.putObj _ (by omega) hl rfl)) ((World.putObj_heap_other (by omega)).trans hk))⟩

/-- How a function leaves over the marks of its ranges. -/
theorem leaves_marks {P : Program} {n : Nat} {fn : Func} {tmps : Array Value} {R : Ending → World → Prop} : ∀ (Ds : List Nat) (w : World), Ds.Nodup → (∀ D ∈ Ds, w.heap[D]? = some (.deferred (some []))) →
    (∀ w', Chg Ds w w' → w'.heap.size = w.heap.size → ∃ v, (results fn tmps).run P w' = .ok v w' ∧ R (.returned v) w') → LeavesInM Fence.wide n P fn tmps R (Ds.map mark) .returning w
  | [], w, _, _, h => h w (Chg.refl _ _) rfl
  | D :: Ds, w, hn, hD, h => by
    have hd := hD D List.mem_cons_self
    rw [List.nodup_cons] at hn
    refine ⟨by simp, .inl ⟨D, _, rfl, run_takeDeferred hd, leaves_marks Ds _ hn.2 (fun D' h' => ?_) (fun w' hc hs => h w' ?_ (by rw [hs, World.putObj_size]))⟩⟩
    · exact (World.putObj_heap_other (fun e => hn.1 (by rw [← e]; exact h'))).trans (hD D' (List.mem_cons_of_mem _ h'))
    · exact ((chg_putObj w D _).mono (fun k hk _ => by simp at hk; simp [hk])).trans hc (fun k hk _ => List.mem_cons_of_mem _ hk)

theorem calls_of_wp_marks {P : Program} {f : FuncId} {fn : Func} {c : Code} {args : Array Value} {w : World} {R : Ending → World → Prop} (hf : P.funcs[f]? = some fn) (hb : fn.body = some c)
    (h : c.wp P (bodyPostM Fence.wide 10 P fn R) { tmps := args ++ Array.replicate (fn.ntmps - args.size) undef, defers := [] } w) : Calls P f args w R :=
  (callsIn_wide (n := 10)).1 (callsIn_of_wp_marks hf hb trivial (wpIn_wide.2 h))

theorem keepB_row {S : List Nat} {w w' : World} {e : TypeId} {k : Nat} {v : Value} {n : Nat} {xs : List Value} (h : w.ownsRow 0 e k v n xs) (g : KeepB S w w') (hn : ∀ b, v.ownBlock = some b → b ∈ S) : w'.ownsRow 0 e k v n xs := by
  refine ⟨h.1, ?_⟩
  rcases h.2 with h2 | ⟨b, cap, cur, rfl, hb, hh, r⟩
  · exact .inl h2
  · exact .inr ⟨b, cap, cur, rfl, hb, (g b (hn b rfl)).trans hh, r⟩
theorem keepB_vec {S : List Nat} {w w' : World} {vt e : TypeId} {k p : Nat} {sv : Value} {n : Nat} {xs : List Value} (h : VecAt w vt e k p sv n xs) (g : KeepB S w w') (hS : ∀ c ∈ vfoot p sv, c ∈ S) : VecAt w' vt e k p sv n xs :=
  ⟨(g p (hS p (by simp [vfoot]))).trans h.obj, keepB_row h.row g (fun b hb => hS b (by simp [vfoot, hb])), h.ne⟩
/-- A function value that ranges over a copied row: the closure's number, its box. -/
def Ranged (w : World) (fn st e k n : Nat) (xs : List Value) (en : Ending) (w' : World) : Prop :=
  ∃ b sv, en = .returned (.func (.func fn) #[] #[.pointer (some ⟨b, 0, none⟩)]) ∧ VecAt w' st e k b sv n xs ∧ Chg [] w w' ∧ (∀ c ∈ vfoot b sv, w.heap.size ≤ c)
theorem row_n63 {w : World} {e : TypeId} {k : Nat} {v : Value} {n : Nat} {xs : List Value} (h : w.ownsRow 0 e k v n xs) : n ≤ 9223372036854775807 := by
  rcases row_form h with ⟨_, rfl, _⟩ | ⟨g, cap, cur, _, _, h1, h2, _⟩
  · omega
  · unfold maxLen at h2; omega
/-- A cell of a row with one cell an element. -/
theorem row_cell1 {w : World} {e : TypeId} {a : Option Addr} {c : Nat} {n : Nat} {xs : List Value} (h : w.ownsRow 0 e 1 (.slice a n c) n xs) {k : Nat} (hk : k < n) :
    ∃ g, a = some ⟨g, 0, none⟩ ∧ n ≤ c ∧ w.cell? ⟨g, k, none⟩ = some (xs[k]?.getD undef) := by
  have hl := h.1
  rcases row_form h with ⟨_, rfl, _⟩ | ⟨g, cap, cur, e1, hg, hnc, _⟩
  · omega
  · cases e1
    refine ⟨g, rfl, hnc, ?_⟩
    have := h.cells (g := g) rfl k (xs[k]'(by omega)) (List.getElem?_eq_getElem _)
    rw [Addr.add_lit, Nat.zero_add] at this
    rw [this, List.getElem?_eq_getElem (by omega)]
    rfl
theorem enters_fn {P : Program} {f : FuncId} {fn : Func} {c : Code} (hf : P.funcs[f]? = some fn) (hn : (fn.name == "runtime.NumGoroutine") = false) (hb : fn.body = some c) : ∀ args w, (callFunc f args).run P w = .ok (.enter f args) w := fun args w => by
  have hn' : ¬ fn.name = "runtime.NumGoroutine" := by simpa using hn
  simp [callFunc, Sem.run, hf, hb, hn', go_sem]
/-- The same, where the assignment to the loop's variables turns nothing in memory. -/
theorem wp_range_plain {P : Program} {g : Operand} {ps : Array Tmp} {assign body : Code} {Q : Exit → Act → World → Prop} {a : Act} {w : World}
    {gf : Nat} {lb : Array Value} (hg : a.eval g = .func (.func gf) #[] lb) (eg : ∀ args w, (callFunc gf args).run P w = .ok (.enter gf args) w)
    {encs : Nat → Array Value} {S : List Nat} {N : Nat} (hseq : SeqList P gf lb encs S N w) (hS : ∀ c ∈ S, c < w.heap.size) (hps : ∀ x, (encs x).size = ps.size)
    (I : Nat → World → Prop) (Ix : Code → World → Prop) (hI : ∀ k W W', I k W → Quiet w.heap.size W W' → I k W') (hIx : ∀ c W W', Ix c W → Quiet w.heap.size W W' → Ix c W') (h0 : I 0 w) (a₁ : Nat → Act)
    (hassign : ∀ (l k : Nat) (W : World) (K : Act → World → Prop), k < N → K (a₁ k) W →
      assign.wpIn (Fence.wide.inRound l) 8 P (Exit.then K (fun _ _ _ => False)) { tmps := (ps.zip (encs k)).foldl (fun t (p, v) => t.setIfInBounds p v) a.tmps, defers := [] } W)
    (hbody : ∀ (l k : Nat) (W : World), k < N → I k W → (∀ c ∈ S, c < W.heap.size) → body.wpIn (Fence.wide.inRound l) 8 P (roundEnd S W (I (k + 1)) Ix) (a₁ k) W)
    (hdone : ∀ (D : Nat) (W : World), w.heap.size ≤ D → I N W → W.heap[D]? = some (.deferred (some [])) → Q .normal { a with defers := mark D :: a.defers } W)
    (hstop : ∀ (D : Nat) (c : Code) (W : World), w.heap.size ≤ D → Ix c W → W.heap[D]? = some (.deferred (some [])) → c.wp P Q { a with defers := mark D :: a.defers } W) :
    (Code.rangeFunc g ps assign body).wp P Q a w :=
  wp_range_list hg eg hseq hS hps I Ix (fun k a' _ => a' = a₁ k) hI hIx (fun _ _ _ _ h _ => h) h0
    (fun l k W K hk hi hs hK => hassign l k W K hk (hK _ _ (BodyOk.refl hs) hi rfl)) (fun l k a' W hk hi e hs => by subst e; exact hbody l k W hk hi hs) hdone hstop
end Go.Fol
