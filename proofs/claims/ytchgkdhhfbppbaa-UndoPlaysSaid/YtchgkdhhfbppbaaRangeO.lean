/- Ranging over an iterator in words of what stands side by side. No program in sight. -/
import Derived.Test.YtchgkdhhfbppbaaSep
import Derived.OwnWalkIn
namespace Go.Fol
open Go Go.RowKit
set_option linter.unusedVariables false
set_option linter.unusedSimpArgs false

section
variable {w0 w w' : World} {A B C D E : Asrt} {R R' : List Asrt}
theorem Owns.p1 (H : Owns w0 w (A :: B :: R)) : Owns w0 w (B :: A :: R) := H.swap
theorem Owns.p2 (H : Owns w0 w (A :: B :: C :: R)) : Owns w0 w (C :: A :: B :: R) := H.perm (perm_pick _ 2 (by simp))
theorem Owns.p3 (H : Owns w0 w (A :: B :: C :: D :: R)) : Owns w0 w (D :: A :: B :: C :: R) := H.perm (perm_pick _ 3 (by simp))
theorem Owns.p4 (H : Owns w0 w (A :: B :: C :: D :: E :: R)) : Owns w0 w (E :: A :: B :: C :: D :: R) := H.perm (perm_pick _ 4 (by simp))
/-- The first, laid behind the second, the third, .. -/
theorem Owns.q2 (H : Owns w0 w (A :: B :: C :: R)) : Owns w0 w (B :: C :: A :: R) := H.p2.p2
theorem Owns.q3 (H : Owns w0 w (A :: B :: C :: D :: R)) : Owns w0 w (B :: C :: D :: A :: R) := H.p3.p3.p3
theorem Owns.ranged {fn st e k n : Nat} {xs : List Value} {en : Ending} (H : Owns w0 w R) (h : Ranged w fn st e k n xs en w') :
    RetX (fun b : Nat => .func (.func fn) #[] #[.pointer (some ⟨b, 0, none⟩)]) w0 (fun b => Asrt.vec st e k b n xs :: R) en w' := by
  obtain ⟨b, sv, rfl, hv, hc, hn⟩ := h
  exact ⟨b, rfl, H.new hc ⟨_, ⟨sv, rfl, hv⟩, hn⟩⟩
theorem Owns.toSame {F : List Nat} (H : Owns w0 w (A :: R)) (hu : ∀ G, A.on G w → G = F) : Owns w0 w (Asrt.same w F :: R) :=
  H.step1 (fun G hG _ => by
    obtain rfl := hu G hG
    exact ⟨Chg.refl _ _, _, ⟨rfl, fun b hb => ⟨A.lt hG b hb, rfl⟩⟩, fun b hb => .inl hb⟩)
end

theorem keepB_lt {S : List Nat} {W W' : World} (h : KeepB S W W') {q : Nat} (hq : q ∈ S) (hl : q < W.heap.size) : q < W'.heap.size := by
  have := h q hq
  rw [Array.getElem?_eq_getElem hl] at this
  exact (Array.getElem?_eq_some_iff.1 this).1
/-- A call in a round. -/
theorem in_round {P : Program} {f : FuncId} {args : Array Value} {w : World} {Q : Ending → World → Prop} {l n : Nat} (h : Calls P f args w Q) : Fence.wide.fn f ∧ CallsIn (Fence.wide.inRound l) n P f args w Q :=
  ⟨trivial, CallsIn.inRound l (callsIn_wide.2 h)⟩
/-- append in a round, where its run is known. -/
theorem wpListIn_append_run {F : Fence} {n : Nat} {P : Program} (w : World) {ops : Array Oper} {rest : List Oper} {o : Oper} {a : Act} {Q : Exit → Act → World → Prop}
    (hg : o.guard = none) (s x : Operand) (t tn : TypeId) (hop : o.op = Op.call { callee := Callee.builtin Builtin.append, args := #[s, x], argTypes := #[t, tn] })
    (vs vx : Value) (hs : a.eval s = vs) (hx : a.eval x = vx) (v' : Value) (w' : World) (hrun : (Builtin.append_ #[t, tn] o.type #[vs, vx]).run P w = .ok v' w')
    (h : wpListIn F n P ops Q rest (a.put o.dst v') w') : wpListIn F n P ops Q (o :: rest) a w := by
  refine wpListIn_plain hg fun K hK' => ?_
  unfold Oper.wpIn
  refine ⟨?_, ?_⟩
  · simp [Oper.about, hop, resolve, Target.leads, Sem.run_pure]
  · rw [Oper.semAt_plain F _ _ (by rw [hop]; intro c hc'; cases hc')]
    simp [execOp, hop, resolve, invoke, builtin, hs, hx, hrun, Result.andThen]
    exact hK' _ _ h
/-- How the body of a round may be left. -/
def roundOwn (w0 : World) (R : List Asrt) (A : Asrt) (Ax : Code → Asrt) : Exit → Act → World → Prop
  | .normal, _, W' => Owns w0 W' (A :: R)
  | .ret, _, W' => Owns w0 W' (Ax .ret :: R)
  | .exit id, _, W' => Owns w0 W' (Ax (.exit id) :: R)
  | _, _, _ => False

/-- What a range leaves behind. -/
abbrev Asrt.mark (D : Nat) : Asrt := Asrt.obj D (.deferred (some []))

theorem wp_range_own2 {P : Program} {g : Operand} {ps : Array Tmp} {assign body : Code} {Q : Exit → Act → World → Prop} {a : Act} {w w0 : World}
    {gf : Nat} {lb : Array Value} (hg : a.eval g = .func (.func gf) #[] lb) (eg : ∀ args w, (callFunc gf args).run P w = .ok (.enter gf args) w)
    {encs : Nat → Array Value} {S : List Nat} {N : Nat} (hseq : SeqList P gf lb encs S N w) (hps : ∀ x, (encs x).size = ps.size)
    {R : List Asrt} (A : Nat → Asrt) (A' : Nat → Act → Asrt) (Ax : Code → Asrt) (H : Owns w0 w (A 0 :: Asrt.same w S :: R))
    (hassign : ∀ (l k : Nat) (W : World) (K : Act → World → Prop) (Z : Asrt), k < N → Owns w0 W (A k :: Z :: R) → (∀ a' W', Owns w0 W' (A' k a' :: Z :: R) → K a' W') →
      assign.wpIn (Fence.wide.inRound l) 8 P (Exit.then K (fun _ _ _ => False)) { tmps := (ps.zip (encs k)).foldl (fun t (p, v) => t.setIfInBounds p v) a.tmps, defers := [] } W)
    (hbody : ∀ (l k : Nat) (a' : Act) (W : World) (Z : Asrt), k < N → Owns w0 W (A' k a' :: Z :: R) → body.wpIn (Fence.wide.inRound l) 8 P (roundOwn w0 (Z :: R) (A (k + 1)) Ax) a' W)
    (hdone : ∀ (D : Nat) (W : World), Owns w0 W (A N :: Asrt.mark D :: R) → Q .normal { a with defers := mark D :: a.defers } W)
    (hstop : ∀ (D : Nat) (c : Code) (W : World), Owns w0 W (Ax c :: Asrt.mark D :: R) → c.wp P Q { a with defers := mark D :: a.defers } W) :
    (Code.rangeFunc g ps assign body).wp P Q a w := by
  refine (wpIn_wide (n := 10)).1 ?_
  refine wpIn_rangeFunc ?_
  intro fn hfn
  obtain ⟨rec, hrec⟩ : ∃ rec : LoopState → Option Code → Loop, rec = fun st pe => { state := st, pending := pe, fn, tmps := a.tmps, params := ps, assign, body, defers := w.heap.size } := ⟨_, rfl⟩
  obtain ⟨W1, hW1⟩ : ∃ W1, (w.alloc (.deferred (some []))).alloc (.loop (rec .ready none)) = W1 := ⟨_, rfl⟩
  obtain ⟨L, hL⟩ : ∃ L, L = w.heap.size + 1 := ⟨_, rfl⟩
  have hc1 : Chg [] w W1 := by rw [← hW1]; exact ((Chg.refl [] w).alloc _).alloc _
  have H1 : Owns w0 W1 (A 0 :: Asrt.obj L (.loop (rec .ready none)) :: Asrt.mark w.heap.size :: Asrt.same w S :: R) := by
    rw [← hW1, hL]
    have := (H.allocO (.deferred (some []))).allocO (.loop (rec .ready none))
    rw [World.size_alloc] at this
    exact this.p2
  have hlS : ∀ c ∈ S, c < w.heap.size := by
    obtain ⟨F, ⟨_, h⟩, _⟩ := H.p1.head
    exact fun c hc => (h c hc).1
  have same : ∀ {W : World} {X : List Asrt}, Owns w0 W X → Asrt.same w S ∈ X → ∀ c ∈ S, W.heap[c]? = w.heap[c]? := fun {W X} HX hm c hc => by
    obtain ⟨F, ⟨_, h⟩, _⟩ := (HX.mem hm).head
    exact (h c hc).2
  refine ⟨w.heap.size + 1, [mark w.heap.size], W1, { target := .fn (.func gf) lb, args := #[.func (.yield (w.heap.size + 1)) #[] #[]] }, W1, gf,
    #[.func (.yield (w.heap.size + 1)) #[] #[]] ++ lb, W1, ?_, ?_, ?_, ?_, (fun h => by cases h), ?_⟩
  · rw [← hW1, hrec]; exact run_enterLoop_outer _ _ _ _ _
  · simp only [resolve, hg]
    simp [go_sem]
  · intro f' _; trivial
  · simp [invoke, go_sem, eg]
  · rw [← hL]
    refine (hseq L
      (fun k W => Owns w0 W (A k :: Asrt.obj L (.loop (rec .ready none)) :: Asrt.mark w.heap.size :: Asrt.same w S :: R))
      (fun W => ∃ c, Owns w0 W (Ax c :: Asrt.obj L (.loop (rec .done (some c))) :: Asrt.mark w.heap.size :: R))
      W1 (hc1.keepB (fun c hc => ⟨hlS c hc, fun h => by cases h⟩)) hc1.size
      (fun k A B h hc => h.quiet hc) (fun A B ⟨c, h⟩ hc => ⟨c, h.quiet hc⟩) ?_ H1).mono ?_
    · -- one round
      intro k W hk HJ
      have hl := HJ.p1.obj
      have hy := run_yield (P := P) (args := encs k) hl (by rw [hrec]; exact hps k)
      rw [hrec] at hy
      refine ⟨fn, _, assign, body, hy, roundIn_of_wpIn hfn (hassign _ k W _ (Asrt.all [Asrt.obj L (.loop (rec .ready none)), Asrt.mark w.heap.size, Asrt.same w S]) hk (Owns.allI (L := [_, _, _]) HJ.q3).p1 ?_)⟩
      intro a' Wa HA
      have HA4 : Owns w0 Wa (Asrt.obj L (.loop (rec .ready none)) :: Asrt.mark w.heap.size :: Asrt.same w S :: A' k a' :: R) := Owns.allE (L := [_, _, _]) HA.p1
      have hl := HA4.obj
      refine ⟨_, run_beginRound hl (by rw [hrec]), ?_⟩
      have Hb := (HA4.putObj (.loop { rec .ready none with state := .busy })).p3
      obtain ⟨Wb, hWb⟩ : ∃ Wb, Wa.putObj L (.loop { rec .ready none with state := .busy }) = Wb := ⟨_, rfl⟩
      rw [hWb] at Hb ⊢
      have HZ : Owns w0 Wb (A' k a' :: Asrt.all [Asrt.obj L (.loop { rec .ready none with state := .busy }), Asrt.mark w.heap.size, Asrt.same w S] :: R) := (Owns.allI (L := [_, _, _]) Hb.q3).p1
      refine wpIn_mono (hbody _ k a' Wb _ hk HZ) ?_
      have fin : ∀ (X : Asrt) (jump : Option Code) (W3 : World), Owns w0 W3 (X :: Asrt.all [Asrt.obj L (.loop { rec .ready none with state := .busy }), Asrt.mark w.heap.size, Asrt.same w S] :: R) →
          (Instr.endRound L jump).run P W3 = .ok (.bool jump.isNone) (W3.putObj L (.loop (rec (if jump.isNone then .ready else .done) jump))) ∧
          Owns w0 (W3.putObj L (.loop (rec (if jump.isNone then .ready else .done) jump))) (X :: Asrt.obj L (.loop (rec (if jump.isNone then .ready else .done) jump)) :: Asrt.mark w.heap.size :: Asrt.same w S :: R) := fun X jump W3 H3 => by
        have H4 : Owns w0 W3 (Asrt.obj L (.loop { rec .ready none with state := .busy }) :: Asrt.mark w.heap.size :: Asrt.same w S :: X :: R) := Owns.allE (L := [_, _, _]) H3.p1
        have := run_endRound (P := P) jump H4.obj
        rw [hrec] at this H4 ⊢
        exact ⟨this, (H4.putObj _).p3⟩
      rintro e a3 W3 hp
      cases e with
      | normal =>
        obtain ⟨hr, H4⟩ := fin _ none W3 hp
        exact ⟨_, _, hr, .inl ⟨rfl, H4, fun c hc => (same H4 (by simp) c hc).trans (same HJ (by simp) c hc).symm⟩⟩
      | ret =>
        obtain ⟨hr, H4⟩ := fin _ (some .ret) W3 hp
        exact ⟨_, _, hr, .inr ⟨rfl, .ret, H4.p3.drop⟩⟩
      | exit id =>
        obtain ⟨hr, H4⟩ := fin _ (some (.exit id)) W3 hp
        exact ⟨_, _, hr, .inr ⟨rfl, .exit id, H4.p3.drop⟩⟩
      | goto t => exact hp.elim
      | panic ch => exact hp.elim
      | outgrown => exact hp.elim
    · -- behind the iterator
      rintro e W2 ⟨⟨v, rfl⟩, (HJ | ⟨c, HJ⟩)⟩
      · have hl := HJ.p1.obj
        have hr := run_endLoop (P := P) hl (by rw [hrec]; simp)
        rw [hrec] at hr
        exact ⟨none, _, hr, hdone _ _ ((HJ.p1.putObj _).drop.p2.drop)⟩
      · have hl := HJ.p1.obj
        have hr := run_endLoop (P := P) hl (by rw [hrec]; simp)
        rw [hrec] at hr
        exact ⟨some c, _, hr, wpIn_wide.2 (hstop _ c _ ((HJ.p1.putObj _).drop))⟩

theorem wp_range_own {P : Program} {g : Operand} {ps : Array Tmp} {assign body : Code} {Q : Exit → Act → World → Prop} {a : Act} {w w0 : World}
    {gf : Nat} {lb : Array Value} (hg : a.eval g = .func (.func gf) #[] lb) (eg : ∀ args w, (callFunc gf args).run P w = .ok (.enter gf args) w)
    {encs : Nat → Array Value} {S : List Nat} {N : Nat} (hseq : SeqList P gf lb encs S N w) (hps : ∀ x, (encs x).size = ps.size)
    {R : List Asrt} (A : Nat → Asrt) (Ax : Code → Asrt) (H : Owns w0 w (A 0 :: Asrt.same w S :: R)) (a₁ : Nat → Act)
    (hassign : ∀ (l k : Nat) (W : World) (K : Act → World → Prop), k < N → K (a₁ k) W →
      assign.wpIn (Fence.wide.inRound l) 8 P (Exit.then K (fun _ _ _ => False)) { tmps := (ps.zip (encs k)).foldl (fun t (p, v) => t.setIfInBounds p v) a.tmps, defers := [] } W)
    (hbody : ∀ (l k : Nat) (W : World) (Z : Asrt), k < N → Owns w0 W (A k :: Z :: R) → body.wpIn (Fence.wide.inRound l) 8 P (roundOwn w0 (Z :: R) (A (k + 1)) Ax) (a₁ k) W)
    (hdone : ∀ (D : Nat) (W : World), Owns w0 W (A N :: Asrt.mark D :: R) → Q .normal { a with defers := mark D :: a.defers } W)
    (hstop : ∀ (D : Nat) (c : Code) (W : World), Owns w0 W (Ax c :: Asrt.mark D :: R) → c.wp P Q { a with defers := mark D :: a.defers } W) :
    (Code.rangeFunc g ps assign body).wp P Q a w :=
  wp_range_own2 hg eg hseq hps A (fun k a' => Asrt.all [Asrt.pure (a' = a₁ k), A k]) Ax H
    (fun l k W K Z hk HW hK => hassign l k W K hk (hK _ _ (Owns.allI (L := [_, _]) (HW.pureI rfl))))
    (fun l k a' W Z hk HW => by
      obtain ⟨rfl, HW'⟩ := (Owns.allE (L := [_, _]) HW).pureE
      exact hbody l k W Z hk HW') hdone hstop

/-- A range over an iterator that a round may break off: both ways lead to one end. -/
theorem wp_range_own_break {P : Program} {g : Operand} {ps : Array Tmp} {assign body : Code} {id : Nat} {Q : Exit → Act → World → Prop} {a : Act} {w w0 : World}
    {gf : Nat} {lb : Array Value} (hg : a.eval g = .func (.func gf) #[] lb) (eg : ∀ args w, (callFunc gf args).run P w = .ok (.enter gf args) w)
    {encs : Nat → Array Value} {S : List Nat} {N : Nat} (hseq : SeqList P gf lb encs S N w) (hps : ∀ x, (encs x).size = ps.size)
    {R : List Asrt} (A : Nat → Asrt) (J : Asrt) (H : Owns w0 w (A 0 :: Asrt.same w S :: R)) (hN : ∀ W X, Owns w0 W (A N :: X) → Owns w0 W (J :: X)) (a₁ : Nat → Act)
    (hassign : ∀ (l k : Nat) (W : World) (K : Act → World → Prop), k < N → K (a₁ k) W →
      assign.wpIn (Fence.wide.inRound l) 8 P (Exit.then K (fun _ _ _ => False)) { tmps := (ps.zip (encs k)).foldl (fun t (p, v) => t.setIfInBounds p v) a.tmps, defers := [] } W)
    (hbody : ∀ (l k : Nat) (W : World) (Z : Asrt), k < N → Owns w0 W (A k :: Z :: R) → body.wpIn (Fence.wide.inRound l) 8 P (roundOwn w0 (Z :: R) (A (k + 1)) (fun c => Asrt.all [Asrt.pure (c = .exit id), J])) (a₁ k) W)
    (hend : ∀ (D : Nat) (W : World), Owns w0 W (J :: Asrt.mark D :: R) → Q .normal { a with defers := mark D :: a.defers } W) :
    (Code.rangeFunc g ps assign body).wp P (Exit.inBlock id Q) a w :=
  wp_range_own hg eg hseq hps A (fun c => Asrt.all [Asrt.pure (c = .exit id), J]) H a₁ hassign hbody
    (fun D W hD => hend D W (hN W _ hD))
    (fun D c W hD => by
      obtain ⟨rfl, hD'⟩ := (Owns.allE (L := [_, _]) hD).pureE
      have := hend D W hD'
      exact wp_exit (by simpa [Exit.inBlock] using this))

/-- How a function leaves over the marks of its ranges. -/
theorem leaves_own {P : Program} {n : Nat} {fn : Func} {tmps : Array Value} {Q : Ending → World → Prop} {w0 : World} {R : List Asrt} : ∀ (Ds : List Nat) (w : World), Owns w0 w (Ds.map Asrt.mark ++ R) →
    (∀ w', Owns w0 w' R → ∃ v, (results fn tmps).run P w' = .ok v w' ∧ Q (.returned v) w') → LeavesInM Fence.wide n P fn tmps Q (Ds.map mark) .returning w
  | [], w, H, h => h w H
  | D :: Ds, w, H, h => by
    have H' : Owns w0 w (Asrt.mark D :: (Ds.map Asrt.mark ++ R)) := H
    exact ⟨by simp, .inl ⟨D, _, rfl, run_takeDeferred H'.obj, leaves_own Ds _ ((H'.putObj _).drop) h⟩⟩
end Go.Fol
