/- A range over an iterator, what the iterator reads kept: the law of RangeO, with these blocks handed back. No program in sight. -/
import Derived.Test.YtchgkdhhfbppbaaRangeO
namespace Go.Fol
open Go Go.RowKit
set_option linter.unusedVariables false
set_option linter.unusedSimpArgs false

theorem wp_range_own3 {P : Program} {g : Operand} {ps : Array Tmp} {assign body : Code} {Q : Exit → Act → World → Prop} {a : Act} {w w0 : World}
    {gf : Nat} {lb : Array Value} (hg : a.eval g = .func (.func gf) #[] lb) (eg : ∀ args w, (callFunc gf args).run P w = .ok (.enter gf args) w)
    {encs : Nat → Array Value} {S : List Nat} {N : Nat} (hseq : SeqList P gf lb encs S N w) (hps : ∀ x, (encs x).size = ps.size)
    {R : List Asrt} (A : Nat → Asrt) (A' : Nat → Act → Asrt) (Ax : Code → Asrt) (H : Owns w0 w (A 0 :: Asrt.same w S :: R))
    (hassign : ∀ (l k : Nat) (W : World) (K : Act → World → Prop) (Z : Asrt), k < N → Owns w0 W (A k :: Z :: R) → (∀ a' W', Owns w0 W' (A' k a' :: Z :: R) → K a' W') →
      assign.wpIn (Fence.wide.inRound l) 8 P (Exit.then K (fun _ _ _ => False)) { tmps := (ps.zip (encs k)).foldl (fun t (p, v) => t.setIfInBounds p v) a.tmps, defers := [] } W)
    (hbody : ∀ (l k : Nat) (a' : Act) (W : World) (Z : Asrt), k < N → Owns w0 W (A' k a' :: Z :: R) → body.wpIn (Fence.wide.inRound l) 8 P (roundOwn w0 (Z :: R) (A (k + 1)) Ax) a' W)
    (hdone : ∀ (D : Nat) (W : World), Owns w0 W (A N :: Asrt.mark D :: Asrt.same w S :: R) → Q .normal { a with defers := mark D :: a.defers } W)
    (hstop : ∀ (D : Nat) (c : Code) (W : World), Owns w0 W (Ax c :: Asrt.mark D :: Asrt.same w S :: R) → c.wp P Q { a with defers := mark D :: a.defers } W) :
    (Code.rangeFunc g ps assign body).wp P Q a w := by
  refine (wpIn_wide (n := 10)).1 ?_
  refine wpIn_rangeFunc ?_
  intro fn hfn
  obtain ⟨rec, hrec⟩ : ∃ rec : LoopState → Option Code → Loop, rec = fun st pe => { state := st, pending := pe, fn, tmps := a.tmps, params := ps, assign, body, defers := w.heap.size } := ⟨_, rfl⟩
  obtain ⟨W1, hW1⟩ : ∃ W1, (w.alloc (.deferred (some []))).alloc (.loop (rec .ready none)) = W1 := ⟨_, rfl⟩
  obtain ⟨L, hL⟩ : ∃ L, L = w.heap.size + 1 := ⟨_, rfl⟩
  have hc1 : Chg [] w W1 := by rw [← hW1]; exact ((Chg.refl [] w).alloc _).alloc _
  have H1 : Owns w0 W1 (A 0 :: Asrt.obj L (.loop (rec .ready none)) :: Asrt.mark w.heap.size :: Asrt.same w S :: R) := by
    rw [← hW1, hL]
    have := (H.allocO (.deferred (some []))).allocO (.loop (rec .ready none))
    rw [World.size_alloc] at this
    exact this.p2
  have hlS : ∀ c ∈ S, c < w.heap.size := by
    obtain ⟨F, ⟨_, h⟩, _⟩ := H.p1.head
    exact fun c hc => (h c hc).1
  have same : ∀ {W : World} {X : List Asrt}, Owns w0 W X → Asrt.same w S ∈ X → ∀ c ∈ S, W.heap[c]? = w.heap[c]? := fun {W X} HX hm c hc => by
    obtain ⟨F, ⟨_, h⟩, _⟩ := (HX.mem hm).head
    exact (h c hc).2
  refine ⟨w.heap.size + 1, [mark w.heap.size], W1, { target := .fn (.func gf) lb, args := #[.func (.yield (w.heap.size + 1)) #[] #[]] }, W1, gf,
    #[.func (.yield (w.heap.size + 1)) #[] #[]] ++ lb, W1, ?_, ?_, ?_, ?_, (fun h => by cases h), ?_⟩
  · rw [← hW1, hrec]; exact run_enterLoop_outer _ _ _ _ _
  · simp only [resolve, hg]
    simp [go_sem]
  · intro f' _; trivial
  · simp [invoke, go_sem, eg]
  · rw [← hL]
    refine (hseq L
      (fun k W => Owns w0 W (A k :: Asrt.obj L (.loop (rec .ready none)) :: Asrt.mark w.heap.size :: Asrt.same w S :: R))
      (fun W => ∃ c, Owns w0 W (Ax c :: Asrt.obj L (.loop (rec .done (some c))) :: Asrt.mark w.heap.size :: Asrt.same w S :: R))
      W1 (hc1.keepB (fun c hc => ⟨hlS c hc, fun h => by cases h⟩)) hc1.size
      (fun k A B h hc => h.quiet hc) (fun A B ⟨c, h⟩ hc => ⟨c, h.quiet hc⟩) ?_ H1).mono ?_
    · -- one round
      intro k W hk HJ
      have hl := HJ.p1.obj
      have hy := run_yield (P := P) (args := encs k) hl (by rw [hrec]; exact hps k)
      rw [hrec] at hy
      refine ⟨fn, _, assign, body, hy, roundIn_of_wpIn hfn (hassign _ k W _ (Asrt.all [Asrt.obj L (.loop (rec .ready none)), Asrt.mark w.heap.size, Asrt.same w S]) hk (Owns.allI (L := [_, _, _]) HJ.q3).p1 ?_)⟩
      intro a' Wa HA
      have HA4 : Owns w0 Wa (Asrt.obj L (.loop (rec .ready none)) :: Asrt.mark w.heap.size :: Asrt.same w S :: A' k a' :: R) := Owns.allE (L := [_, _, _]) HA.p1
      have hl := HA4.obj
      refine ⟨_, run_beginRound hl (by rw [hrec]), ?_⟩
      have Hb := (HA4.putObj (.loop { rec .ready none with state := .busy })).p3
      obtain ⟨Wb, hWb⟩ : ∃ Wb, Wa.putObj L (.loop { rec .ready none with state := .busy }) = Wb := ⟨_, rfl⟩
      rw [hWb] at Hb ⊢
      have HZ : Owns w0 Wb (A' k a' :: Asrt.all [Asrt.obj L (.loop { rec .ready none with state := .busy }), Asrt.mark w.heap.size, Asrt.same w S] :: R) := (Owns.allI (L := [_, _, _]) Hb.q3).p1
      refine wpIn_mono (hbody _ k a' Wb _ hk HZ) ?_
      have fin : ∀ (X : Asrt) (jump : Option Code) (W3 : World), Owns w0 W3 (X :: Asrt.all [Asrt.obj L (.loop { rec .ready none with state := .busy }), Asrt.mark w.heap.size, Asrt.same w S] :: R) →
          (Instr.endRound L jump).run P W3 = .ok (.bool jump.isNone) (W3.putObj L (.loop (rec (if jump.isNone then .ready else .done) jump))) ∧
          Owns w0 (W3.putObj L (.loop (rec (if jump.isNone then .ready else .done) jump))) (X :: Asrt.obj L (.loop (rec (if jump.isNone then .ready else .done) jump)) :: Asrt.mark w.heap.size :: Asrt.same w S :: R) := fun X jump W3 H3 => by
        have H4 : Owns w0 W3 (Asrt.obj L (.loop { rec .ready none with state := .busy }) :: Asrt.mark w.heap.size :: Asrt.same w S :: X :: R) := Owns.allE (L := [_, _, _]) H3.p1
        have := run_endRound (P := P) jump H4.obj
        rw [hrec] at this H4 ⊢
        exact ⟨this, (H4.putObj _).p3⟩
      rintro e a3 W3 hp
      cases e with
      | normal =>
        obtain ⟨hr, H4⟩ := fin _ none W3 hp
        exact ⟨_, _, hr, .inl ⟨rfl, H4, fun c hc => (same H4 (by simp) c hc).trans (same HJ (by simp) c hc).symm⟩⟩
      | ret =>
        obtain ⟨hr, H4⟩ := fin _ (some .ret) W3 hp
        exact ⟨_, _, hr, .inr ⟨rfl, .ret, H4⟩⟩
      | exit id =>
        obtain ⟨hr, H4⟩ := fin _ (some (.exit id)) W3 hp
        exact ⟨_, _, hr, .inr ⟨rfl, .exit id, H4⟩⟩
      | goto t => exact hp.elim
      | panic ch => exact hp.elim
      | outgrown => exact hp.elim
    · -- behind the iterator
      rintro e W2 ⟨⟨v, rfl⟩, (HJ | ⟨c, HJ⟩)⟩
      · have hl := HJ.p1.obj
        have hr := run_endLoop (P := P) hl (by rw [hrec]; simp)
        rw [hrec] at hr
        exact ⟨none, _, hr, hdone _ _ ((HJ.p1.putObj _).drop)⟩
      · have hl := HJ.p1.obj
        have hr := run_endLoop (P := P) hl (by rw [hrec]; simp)
        rw [hrec] at hr
        exact ⟨some c, _, hr, wpIn_wide.2 (hstop _ c _ ((HJ.p1.putObj _).drop))⟩
end Go.Fol
