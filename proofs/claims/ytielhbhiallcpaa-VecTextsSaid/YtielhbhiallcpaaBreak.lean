/- A range over an iterator that a round may break off: both ways lead to one end. No program in sight. -/
import Derived.Test.YtielhbhiallcpaaRange
namespace Go.Fol
open Go Go.RowKit
set_option linter.unusedVariables false
set_option linter.unusedSimpArgs false

theorem wp_range_break {P : Program} {g : Operand} {ps : Array Tmp} {assign body : Code} {id : Nat} {R : Exit → Act → World → Prop} {a : Act} {w : World}
    {gf : Nat} {lb : Array Value} (hg : a.eval g = .func (.func gf) #[] lb) (eg : ∀ args w, (callFunc gf args).run P w = .ok (.enter gf args) w)
    {encs : Nat → Array Value} {S : List Nat} {N : Nat} (hseq : SeqList P gf lb encs S N w) (hS : ∀ c ∈ S, c < w.heap.size) (hps : ∀ x, (encs x).size = ps.size)
    (I : Nat → World → Prop) (J : World → Prop) (hI : ∀ k W W', I k W → Quiet w.heap.size W W' → I k W') (hJ : ∀ W W', J W → Quiet w.heap.size W W' → J W') (h0 : I 0 w) (hN : ∀ W, I N W → J W) (a₁ : Nat → Act)
    (hassign : ∀ (l k : Nat) (W : World) (K : Act → World → Prop), k < N → K (a₁ k) W →
      assign.wpIn (Fence.wide.inRound l) 8 P (Exit.then K (fun _ _ _ => False)) { tmps := (ps.zip (encs k)).foldl (fun t (p, v) => t.setIfInBounds p v) a.tmps, defers := [] } W)
    (hbody : ∀ (l k : Nat) (W : World), k < N → I k W → (∀ c ∈ S, c < W.heap.size) → body.wpIn (Fence.wide.inRound l) 8 P (roundEnd S W (I (k + 1)) (fun c W' => c = .exit id ∧ J W')) (a₁ k) W)
    (hend : ∀ (D : Nat) (W : World), w.heap.size ≤ D → J W → W.heap[D]? = some (.deferred (some [])) → R .normal { a with defers := mark D :: a.defers } W) :
    (Code.rangeFunc g ps assign body).wp P (Exit.inBlock id R) a w :=
  wp_range_plain hg eg hseq hS hps I (fun c W' => c = .exit id ∧ J W') hI (fun c W W' h q => ⟨h.1, hJ W W' h.2 q⟩) h0 a₁ hassign hbody
    (fun D W hD hi hd => hend D W hD (hN W hi) hd)
    (fun D c W hD hi hd => by
      obtain ⟨rfl, hj⟩ := hi
      have := hend D W hD hj hd
      exact wp_exit (by simpa [Exit.inBlock] using this))
theorem Quiet.own {B : Nat} {w0 W W' : World} (q : Quiet B W W') (hB : w0.heap.size ≤ B) {vt e k p : Nat} {sv : Value} {n : Nat} {xs : List Value} (h : Own w0 W vt e k p sv n xs) : Own w0 W' vt e k p sv n xs :=
  ⟨q.vec h.vec, q.chg h.chg hB, h.new⟩
theorem Own.set {w0 W W' : World} {vt e k p : Nat} {sv : Value} {n : Nat} {xs : List Value} (h : Own w0 W vt e k p sv n xs) {b : Nat} (hc : Chg [b] W W') (hb : w0.heap.size ≤ b) (hn : b ∉ vfoot p sv) : Own w0 W' vt e k p sv n xs :=
  ⟨h.vec.keep' hc (fun c hc h => by simp at h; exact hn (h ▸ hc)), h.chg.trans hc (fun c hc hl => by simp at hc; omega), h.new⟩
end Go.Fol
