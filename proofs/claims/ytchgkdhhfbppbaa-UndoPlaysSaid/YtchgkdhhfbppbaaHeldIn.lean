/- A region that draws its order, in a round: the moves of OrdersHeld serve there too. No program in sight. -/
import Derived.Test.YtchgkdhhfbppbaaStillIn
import Derived.OrdersHeld
import Derived.Deep.RegionHeld
namespace Go.Fol
open Go Go.RowKit
set_option linter.unusedVariables false
set_option linter.unusedSimpArgs false
section
variable {P : Program} {l n : Nat} {ops : Array Oper} {md : Region.Mode}
/-- No row of the shelf is called. -/
def Oper.rowless (o : Oper) : Bool := match o.op with
  | .defer _ => false
  | _ => true
theorem rowsIn_round {row : String} {args : Array Value} {w : World} {R : Value → World → Prop} (h : Rows P row args w R) : RowsIn (Fence.wide.inRound l) n P row args w R :=
  fun c cs _ => let ⟨v, w', r, s⟩ := h c cs; ⟨v, w', r, stepsIn_wide.2 s⟩
theorem wpIn_of_wp {o : Oper} (hd : ∀ c, o.op ≠ .defer c) {a : Act} {w : World} {K : Act → World → Prop} {Q : Exit → Act → World → Prop} (h : o.wp P a w K Q) : o.wpIn (Fence.wide.inRound l) n P a w K Q := by
  unfold Oper.wp at h
  unfold Oper.wpIn
  refine ⟨fun f _ => trivial, ?_⟩
  rw [Oper.semAt_plain (Fence.wide.inRound l) _ _ hd]
  generalize (execOp a.eval o).run P w = r at *
  cases r with
  | ok x w' =>
    cases x <;> simp only [Oper.upon] at h <;> simp only [Oper.uponIn]
    case enter f args => exact ⟨(fun hs => by cases hs), (CallsIn.inRound l (callsIn_wide.2 h)).mono fun e w'' he => by cases e <;> exact he⟩
    case row r args => exact ⟨(fun hs => by cases hs), rowsIn_round h⟩
    all_goals exact h
  | halt x w' => cases x <;> simp only [Oper.upon] at h <;> simp only [Oper.uponIn] <;> exact h
theorem wpOpIn_of_wpOp (hd : ∀ (j : Nat) (o : Oper), ops[j]? = some o → ∀ c, o.op ≠ .defer c) {i : Nat} {a : Act} {w : World} {K : Act → World → Prop} {Q : Exit → Act → World → Prop} (hQ : ¬ LetsOut Q) (h : wpOp P ops Q i K a w) : wpOpIn (Fence.wide.inRound l) n P ops Q i K a w := by
  unfold wpOp at h
  unfold wpOpIn
  split
  · rename_i ho; simp only [ho] at h; exact h
  · rename_i o ho
    simp only [ho] at h
    split
    · rename_i hw; simp only [hw, if_true] at h; exact wpIn_of_wp (hd i o ho) (h.resolve_right (fun h' => hQ h'.2))
    · rename_i hw; simp only [hw] at h; exact ⟨fun f _ => trivial, h⟩
theorem wpAnyIn_of_any (hd : ∀ (j : Nat) (o : Oper), ops[j]? = some o → ∀ c, o.op ≠ .defer c) {Q : Exit → Act → World → Prop} (hQ : ¬ LetsOut Q) : ∀ (fuel : Nat) (listed : Array Bool) (a : Act) (w : World), wpAny P md ops Q fuel listed a w → wpAnyIn (Fence.wide.inRound l) n P md ops Q fuel listed a w
  | 0, _, _, _, h => h
  | fuel + 1, _, _, _, h => ⟨h.1, fun i hi => wpOpIn_mono (fun a' w' h' => wpAnyIn_of_any hd hQ fuel _ a' w' h') (wpOpIn_of_wpOp hd hQ (h.2 i hi))⟩
/-- How a region in a round is left: whole. -/
def Whole (K : Act → World → Prop) : Exit → Act → World → Prop
  | .normal, a, w => K a w
  | _, _, _ => False
theorem wpIn_region_held_round {id : Nat} {Q : Exit → Act → World → Prop} {S : World → Prop} {a : Act} {w : World} (hm : P.follows .mixedOrders = true) (hd : ops.toList.all Oper.rowless = true) (hS : S w.drew)
    (h : S w.drew → wpAnyH P .any ops (Whole (Q .normal)) S ops.size (Array.replicate ops.size false) a w.drew) : (Code.region id ops true).wpIn (Fence.wide.inRound l) n P Q a w := by
  refine wpIn_mono (wpIn_region_any hm (wpAnyIn_of_any (Q := Whole (Q .normal)) ?_ ?_ _ _ _ _ (wpAny_of_held _ _ _ _ (h hS)))) ?_
  · intro j o ho c hc
    have := List.all_eq_true.1 hd o (Array.mem_toList_iff.2 (Array.mem_of_getElem? ho))
    rw [Oper.rowless, hc] at this
    cases this
  · rintro ⟨_, _, h⟩
    exact h
  · rintro (_ | _ | _ | _ | _ | _) a w h <;> first | exact h | exact h.elim
end
end Go.Fol
