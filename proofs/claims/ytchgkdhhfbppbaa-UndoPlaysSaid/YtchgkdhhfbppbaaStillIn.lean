/- A region that draws its order, in a round: all its operations but the last few only read (or call quietly). No program in sight. -/
import Derived.Test.YtchgkdhhfbppbaaRangeO
import Derived.StillTail
import Derived.StillTactics
import Derived.OwnWalkIn
namespace Go.Fol
open Go Go.RowKit
set_option linter.unusedVariables false
set_option linter.unusedSimpArgs false
section
variable {P : Program} {l n : Nat} {ops : Array Oper} {md : Region.Mode} {w : World}
theorem wpIn_of_still {o : Oper} (hd : ∀ c, o.op ≠ .defer c) {a : Act} {K : Act → Prop} {K' : Act → World → Prop} {Q' : Exit → Act → World → Prop} (h : ∀ a, K a → K' a w) (hh : o.still P a w K) : o.wpIn (Fence.wide.inRound l) n P a w K' Q' := by
  unfold Oper.still at hh
  unfold Oper.wpIn
  refine ⟨fun f _ => trivial, ?_⟩
  rw [Oper.semAt_plain (Fence.wide.inRound l) _ _ hd]
  generalize (execOp a.eval o).run P w = r at *
  cases r with
  | ok n w' =>
    cases n with
    | enter f args =>
      simp only [Oper.stillUpon] at hh
      obtain ⟨rfl, v, hc, hn⟩ := hh
      refine ⟨(fun hs => by cases hs), (CallsIn.inRound l (callsIn_wide.2 hc)).mono fun e w'' hew => ?_⟩
      obtain ⟨he, hw⟩ := hew
      subst he
      subst hw
      exact h _ hn
    | value v => simp only [Oper.stillUpon] at hh; obtain ⟨rfl, h2⟩ := hh; exact h _ h2
    | skip => simp only [Oper.stillUpon] at hh; obtain ⟨rfl, h2⟩ := hh; exact h _ h2
    | _ => simp only [Oper.stillUpon] at hh
  | halt x w' => simp only [Oper.stillUpon] at hh
theorem wpOpIn_of_stOp (hd : ∀ (j : Nat) (o : Oper), ops[j]? = some o → ∀ c, o.op ≠ .defer c) {i : Nat} {a : Act} {K : Act → Prop} {K' : Act → World → Prop} {Q' : Exit → Act → World → Prop} (h : ∀ a, K a → K' a w) (hh : stOp P ops w i K a) : wpOpIn (Fence.wide.inRound l) n P ops Q' i K' a w := by
  unfold stOp at hh
  unfold wpOpIn
  split
  · rename_i ho; simp only [ho] at hh; exact h _ hh
  · rename_i o ho
    simp only [ho] at hh
    split
    · rename_i hw; simp only [hw, if_true] at hh; exact wpIn_of_still (hd i o ho) h hh
    · rename_i hw; simp only [hw] at hh; exact ⟨fun f _ => trivial, h _ hh⟩
theorem wpAnyIn_of_head (hd : ∀ (j : Nat) (o : Oper), ops[j]? = some o → ∀ c, o.op ≠ .defer c) {m g : Nat} {L : Array Bool → Act → Prop} {Q' : Exit → Act → World → Prop} (hL : ∀ listed a, L listed a → wpAnyIn (Fence.wide.inRound l) n P md ops Q' g listed a w) :
    ∀ (f : Nat) (listed : Array Bool) (a : Act), wpAnyL P md ops w m L f listed a → wpAnyIn (Fence.wide.inRound l) n P md ops Q' (f + g) listed a w
  | 0, listed, a, h => by rw [Nat.zero_add]; exact hL _ _ h
  | f + 1, listed, a, h => by
    rw [show f + 1 + g = (f + g) + 1 by omega]
    exact ⟨fun h0 => absurd h0 h.1, fun i hi => wpOpIn_of_stOp hd (fun a' h' => wpAnyIn_of_head hd hL f _ a' h') (h.2 i hi).2⟩
theorem uponIn_mono {o : Oper} {a : Act} {K K' : Act → World → Prop} {Q' : Exit → Act → World → Prop} (h : ∀ a w, K a w → K' a w) {r : Result Next} (hh : o.uponIn (Fence.wide.inRound l) n P a K Q' r) : o.uponIn (Fence.wide.inRound l) n P a K' Q' r := by
  cases r with
  | ok x w' =>
    cases x <;> simp only [Oper.uponIn] at hh ⊢
    case enter f args => exact ⟨hh.1, hh.2.mono fun e w'' he => by cases e with | returned v => exact h _ _ he | panicked c => exact he | outgrown => exact he⟩
    case row r args => exact ⟨hh.1, hh.2.mono fun v w'' he => h _ _ he⟩
    case round l' f tmps assign body => exact ⟨hh.1, hh.2.mono fun e w'' he => by cases e with | returned v => exact h _ _ he | panicked c => exact he | outgrown => exact he⟩
    all_goals exact h _ _ hh
  | halt x w' => cases x <;> simp only [Oper.uponIn] at hh ⊢ <;> exact hh
theorem wpAnyIn_of_seq {Q' : Exit → Act → World → Prop} : ∀ (l' : List Oper) (k : Nat) (listed : Array Bool) (a : Act) (w : World), (∀ j, l'[j]? = ops[k + j]?) →
    Region.seqB md ops l'.length k listed = true → wpListIn (Fence.wide.inRound l) n P ops Q' l' a w → wpAnyIn (Fence.wide.inRound l) n P md ops Q' l'.length listed a w
  | [], _, _, _, _, _, hB, h => ⟨by simpa [Region.seqB] using hB, h⟩
  | o :: l', k, listed, a, w, hl, hB, h => by
    have h0 : ops[k]? = some o := by simpa using (hl 0).symm
    simp only [List.length_cons, Region.seqB, Bool.and_eq_true, decide_eq_true_eq] at hB
    refine ⟨fun h1 => (by rw [hB.1] at h1; cases h1), fun i hi => ?_⟩
    rw [hB.1] at hi
    have hik : i = k := by simpa using hi
    subst hik
    have ih : ∀ a' w', wpListIn (Fence.wide.inRound l) n P ops Q' l' a' w' → wpAnyIn (Fence.wide.inRound l) n P md ops Q' l'.length (listed.setIfInBounds i true) a' w' := fun a' w' h' => wpAnyIn_of_seq l' (i + 1) (listed.setIfInBounds i true) a' w' (fun j => by have := hl (j + 1); simpa [Nat.add_assoc, Nat.add_comm 1 j] using this) hB.2 h'
    unfold wpOpIn
    simp only [h0]
    simp only [wpListIn] at h
    split at h
    · rename_i hw
      rw [if_pos hw]
      exact ⟨h.1, uponIn_mono ih h.2⟩
    · rename_i hw
      rw [if_neg hw]
      exact ⟨h.1, ih _ _ h.2⟩
theorem wpIn_region_still_tail {id : Nat} {Q : Exit → Act → World → Prop} {a : Act} {L : List Oper} (m : Nat) (hm : P.follows .mixedOrders = true) (hB : Region.lexTailB .any L.toArray m = true) (hd : L.all (fun o => match o.op with | .defer _ => false | _ => true) = true)
    (h : wpStill P L.toArray { w with drawn := w.drawn + 1 } (fun a' => wpListIn (Fence.wide.inRound l) n P L.toArray Q (L.drop m) a' { w with drawn := w.drawn + 1 }) (L.take m) a) : (Code.region id L.toArray true).wpIn (Fence.wide.inRound l) n P Q a w := by
  simp only [Region.lexTailB, Bool.and_eq_true, decide_eq_true_eq] at hB
  obtain ⟨⟨⟨⟨hsel, hn⟩, hs⟩, hc⟩, hlex⟩ := hB
  have hn' : m < L.length := by simpa using hn
  have htl : (L.take m).length = m := by simp; omega
  have hdl : (L.drop m).length = L.toArray.size - m := by simp
  have hd' : ∀ (j : Nat) (o : Oper), L.toArray[j]? = some o → ∀ c, o.op ≠ .defer c := by
    intro j o ho c hc
    have := List.all_eq_true.1 hd o (by simpa using List.mem_of_getElem? (by simpa using ho))
    rw [hc] at this
    cases this
  have inv0 : HeadInv .any L.toArray m (Array.replicate L.toArray.size false) :=
    ⟨by simp, fun j oj _ hl => (by rw [getD_replicate_false] at hl; cases hl), fun t _ ht => getD_in (by simpa using ht) (getD_replicate_false _ _)⟩
  have H := wpAnyL_lex (md := .any) (g := L.toArray.size - m) hsel hs hc hn (L.take m) 0 _ a (fun j hj => by
    have hj' : j < m := by rw [htl] at hj; exact hj
    simp [hj']) (by simpa using htl) inv0 (by rw [htl]; exact hlex) h
  refine wpIn_region_any hm ?_
  have := wpAnyIn_of_head (Q' := Q) (g := L.toArray.size - m) hd' (fun listed a' hL => by
    have := wpAnyIn_of_seq (md := .any) (Q' := Q) (L.drop m) m listed a' { w with drawn := w.drawn + 1 } (fun j => by simp [List.getElem?_drop]) (by rw [hdl]; exact hL.1) hL.2
    rwa [hdl] at this) _ _ _ H
  rw [htl, show m + (L.toArray.size - m) = L.toArray.size by omega] at this
  exact this
end
end Go.Fol
