/- A region that draws its order, in a round, whose last operation may write what is held: the moves. No program in sight. -/
import Derived.Test.YtchgkdhhfbppbaaHeldIn
namespace Go.Fol
open Go Go.RowKit
set_option linter.unusedVariables false
set_option linter.unusedSimpArgs false
section
variable {P : Program} {l n : Nat} {ops : Array Oper} {Q : Exit → Act → World → Prop} {md : Region.Mode} {S : World → Prop} {e : Nat}
/-- Whatever order is picked from here on, and S holds behind every operation that is carried out, as long as the e-th has not come up. -/
def wpAnyT (P : Program) (md : Region.Mode) (ops : Array Oper) (Q : Exit → Act → World → Prop) (S : World → Prop) (e : Nat) : Nat → Array Bool → Act → World → Prop
  | 0, listed, a, w => Region.ready md ops listed = [] ∧ Q .normal a w
  | fuel + 1, listed, a, w =>
    (Region.ready md ops listed = [] → Q .normal a w) ∧
    ∀ i ∈ Region.ready md ops listed, wpOp P ops Q i (fun a' w' => ((listed.setIfInBounds i true).getD e true = false → S w') ∧ wpAnyT P md ops Q S e fuel (listed.setIfInBounds i true) a' w') a w
theorem wpAny_of_T : ∀ (fuel : Nat) (listed : Array Bool) (a : Act) (w : World), wpAnyT P md ops Q S e fuel listed a w → wpAny P md ops Q fuel listed a w
  | 0, _, _, _, h => h
  | fuel + 1, _, _, _, h => ⟨h.1, fun i hi => wpOp_mono (fun a' w' h' => wpAny_of_T fuel _ a' w' h'.2) (h.2 i hi)⟩
/-- Each waits for the one before. -/
def chainB (md : Region.Mode) (ops : Array Oper) : Nat → List Nat → Bool
  | _, [] => true
  | i, j :: r => (match ops[j]? with | some o => o.after.any (fun x => Region.binds md x && x.on == i) | none => false) && chainB md ops j r
/-- None of them has come up. -/
def noneB (listed : Array Bool) (r : List Nat) : Bool := r.all (fun j => !(listed.getD j true))
theorem chain_not_ready {listed : Array Bool} : ∀ (r : List Nat) (i : Nat), chainB md ops i r = true → listed.getD i true = false → noneB listed r = true → ∀ j ∈ r, j ∉ Region.ready md ops listed
  | [], _, _, _, _ => fun j hj => by cases hj
  | k :: r, i, hc, hi, hn => by
    simp only [chainB, Bool.and_eq_true] at hc
    simp only [noneB, List.all_cons, Bool.and_eq_true, Bool.not_eq_true'] at hn
    intro j hj
    rcases List.mem_cons.1 hj with rfl | hj
    · intro hr
      obtain ⟨_, o, ho, hall⟩ := mem_ready.1 hr
      have h1 := hc.1
      simp only [ho, Array.any_eq_true, Bool.and_eq_true, beq_iff_eq] at h1
      obtain ⟨x, hx, hb, hon⟩ := h1
      have h2 := hall _ (Array.getElem_mem hx) hb
      rw [hon] at h2
      rcases Nat.lt_or_ge i listed.size with h' | h'
      · simp [h'] at h2 hi; rw [h2] at hi; cases hi
      · simp [Array.getElem?_eq_none h'] at hi
    · exact chain_not_ready r k hc.2 hn.1 hn.2 j hj
theorem noneB_set {listed : Array Bool} {r : List Nat} {j : Nat} (h : noneB listed r = true) (hj : j ∉ r) : noneB (listed.setIfInBounds j true) r = true := by
  simp only [noneB, List.all_eq_true, Bool.not_eq_true'] at h ⊢
  intro k hk
  rw [getD_set_ne true (fun e => hj (by rw [e]; exact hk))]
  exact h k hk
theorem noneB_mem {listed : Array Bool} {r : List Nat} {j : Nat} (h : noneB listed r = true) (hj : j ∈ r) : listed.getD j true = false := by
  simp only [noneB, List.all_eq_true, Bool.not_eq_true'] at h
  exact h j hj
theorem wpAnyT_first {i : Nat} {oi : Oper} {v : Value} (r : List Nat) (hc : chainB md ops i r = true) (her : e ∈ r) (hi : ops[i]? = some oi) (hsel : ∀ (j : Nat) (o : Oper) cs b, ops[j]? = some o → o.op ≠ .select cs b)
    (hQ : ∀ c a w, Q (.panic c) (a.put oi.dst v) w → Q (.panic c) a w) :
    ∀ (fuel : Nat) (listed : Array Bool) (a : Act) (w : World),
      (∀ j oj, ops[j]? = some oj → j ≠ i → listed.getD j true = false → (∀ e ∈ oj.after, Region.binds md e = true → e.on ≠ i) → oi.apart ops oj = true) →
      i ∈ Region.ready md ops listed → noneB listed r = true → YieldsIf P ops S oi v a → S w →
      wpAnyT P md ops Q S e fuel (listed.setIfInBounds i true) (a.put oi.dst v) w → wpAnyT P md ops Q S e (fuel + 1) listed a w := by
  intro fuel
  induction fuel with
  | zero =>
    intro listed a w _ hr hn hy hS H
    refine ⟨fun h => (by rw [h] at hr; cases hr), fun j hj => ?_⟩
    by_cases hji : j = i
    · subst hji; exact hy.wpOp hi hS ⟨fun _ => hS, H⟩
    · have := ready_mono hj hji
      rw [H.1] at this
      cases this
  | succ fuel ih =>
    intro listed a w hfree hr hn hy hS H
    refine ⟨fun h => (by rw [h] at hr; cases hr), fun j hj => ?_⟩
    by_cases hji : j = i
    · subst hji; exact hy.wpOp hi hS ⟨fun _ => hS, H⟩
    · have h1 := H.2 j (ready_mono hj hji)
      obtain ⟨hjun, oj, hoj, hall⟩ := mem_ready.1 hj
      have hjr : j ∉ r := fun hm => chain_not_ready r i hc (mem_ready.1 hr).1 hn j hm hj
      have hn' := noneB_set hn hjr
      have hnot : ∀ x ∈ oj.after, Region.binds md x = true → x.on ≠ i := fun x he hb heq => by
        have h1 := hall x he hb
        have h0 := (mem_ready.1 hr).1
        rw [heq] at h1
        rcases Nat.lt_or_ge i listed.size with h' | h'
        · simp [h'] at h0 h1; rw [h0] at h1; cases h1
        · simp [Array.getElem?_eq_none h'] at h1
      have h2 := wpOp_putIf hoj (hfree j oj hoj hji hjun hnot) (fun cs b => hsel i oi cs b hi) (fun cs b => hsel j oj cs b hoj) hQ hy h1
      have hfree' : ∀ k ok, ops[k]? = some ok → k ≠ i → (listed.setIfInBounds j true).getD k true = false →
          (∀ x ∈ ok.after, Region.binds md x = true → x.on ≠ i) → oi.apart ops ok = true := fun k ok hk hki hun hno => by
        refine hfree k ok hk hki ?_ hno
        by_cases hjk : j = k
        · subst hjk; exact hjun
        · rw [getD_set_ne true hjk] at hun; exact hun
      refine wpOp_mono (fun a' w' h3 => ?_) h2
      obtain ⟨hy', hS', hW⟩ := h3
      have hei : i ≠ e := fun h => by
        subst h
        have := mem_ready.1 hr
        exact chain_not_ready r i hc this.1 hn i her hr
      have hSw : S w' := hS' (by
        rw [Array.setIfInBounds_comm _ _ (Ne.symm hji), getD_set_ne true hei]
        exact noneB_mem hn' her)
      exact ⟨fun _ => hSw, ih (listed.setIfInBounds j true) a' w' hfree' (ready_mono hr (Ne.symm hji)) hn' hy' hSw (by rw [Array.setIfInBounds_comm _ _ hji]; exact hW)⟩
/-- Take number i first. -/
theorem wpAnyT_take {i : Nat} {oi : Oper} {v : Value} {fuel : Nat} {listed : Array Bool} {a : Act} {w : World} (r : List Nat) (hi : ops[i]? = some oi)
    (hk : (Region.noSelect ops && Region.free md ops listed i && (Region.ready md ops listed).contains i && chainB md ops i r && noneB listed r && r.contains e) = true)
    (hQ : ∀ c a w, Q (.panic c) (a.put oi.dst v) w → Q (.panic c) a w) (hy : YieldsIf P ops S oi v a) (hS : S w)
    (h : wpAnyT P md ops Q S e fuel (listed.setIfInBounds i true) (a.put oi.dst v) w) : wpAnyT P md ops Q S e (fuel + 1) listed a w := by
  simp only [Bool.and_eq_true] at hk
  obtain ⟨⟨⟨⟨⟨h1, h2⟩, h3⟩, h4⟩, h5⟩, h6⟩ := hk
  exact wpAnyT_first r h4 (by simpa using h6) hi (Region.noSelect_spec h1) hQ fuel listed a w (Region.free_spec hi h2) (by simpa using h3) h5 hy hS h
/-- The one that comes up, ahead of the e-th. -/
theorem wpAnyT_step {i : Nat} {o : Oper} {fuel : Nat} {listed : Array Bool} {a : Act} {w : World} (hi : ops[i]? = some o) (hr : Region.ready md ops listed = [i])
    (h : ∀ K' : Act → World → Prop, Shut (∀ a w, S w → (S w → wpAnyT P md ops Q S e fuel (listed.setIfInBounds i true) a w) → K' a w) → if Region.wanted o (yielded ops a.tmps) = true then Oper.wp P o a w K' Q else K' (a.put o.dst undef) w) : wpAnyT P md ops Q S e (fuel + 1) listed a w := by
  refine ⟨fun h0 => (by rw [hr] at h0; cases h0), fun j hj => ?_⟩
  rw [hr] at hj
  obtain rfl : j = i := by simpa using hj
  exact wpOp_step hi (fun K' hK => h K' (fun a w hS hW => hK a w ⟨fun _ => hS, hW hS⟩))
/-- The e-th, or one behind it. -/
theorem wpAnyT_last {i : Nat} {o : Oper} {fuel : Nat} {listed : Array Bool} {a : Act} {w : World} (hi : ops[i]? = some o) (hr : Region.ready md ops listed = [i]) (hl : (listed.setIfInBounds i true).getD e true = true)
    (h : ∀ K' : Act → World → Prop, Shut (∀ a w, wpAnyT P md ops Q S e fuel (listed.setIfInBounds i true) a w → K' a w) → if Region.wanted o (yielded ops a.tmps) = true then Oper.wp P o a w K' Q else K' (a.put o.dst undef) w) : wpAnyT P md ops Q S e (fuel + 1) listed a w := by
  refine ⟨fun h0 => (by rw [hr] at h0; cases h0), fun j hj => ?_⟩
  rw [hr] at hj
  obtain rfl : j = i := by simpa using hj
  exact wpOp_step hi (fun K' hK => h K' (fun a w hW => hK a w ⟨fun h0 => (by rw [hl] at h0; cases h0), hW⟩))
theorem wpAnyT_done {listed : Array Bool} {a : Act} {w : World} (hr : Region.ready md ops listed = []) (h : Q .normal a w) : ∀ fuel, wpAnyT P md ops Q S e fuel listed a w
  | 0 => ⟨hr, h⟩
  | _ + 1 => ⟨fun _ => h, by rw [hr]; simp⟩
theorem wpIn_region_T {id : Nat} {a : Act} {w : World} (S : World → Prop) (e : Nat) (hm : P.follows .mixedOrders = true) (hd : ops.toList.all Oper.rowless = true) (hS : S w.drew)
    (h : S w.drew → wpAnyT P .any ops (Whole (Q .normal)) S e ops.size (Array.replicate ops.size false) a w.drew) : (Code.region id ops true).wpIn (Fence.wide.inRound l) n P Q a w := by
  refine wpIn_mono (wpIn_region_any hm (wpAnyIn_of_any (Q := Whole (Q .normal)) ?_ ?_ _ _ _ _ (wpAny_of_T _ _ _ _ (h hS)))) ?_
  · intro j o ho c hc
    have := List.all_eq_true.1 hd o (Array.mem_toList_iff.2 (Array.mem_of_getElem? ho))
    rw [Oper.rowless, hc] at this
    cases this
  · rintro ⟨_, _, h⟩
    exact h
  · rintro (_ | _ | _ | _ | _ | _) a w h <;> first | exact h | exact h.elim
/-- The same beginning outside of rounds. -/
theorem wp_region_T {id : Nat} {a : Act} {w : World} (S : World → Prop) (e : Nat) (hm : P.follows .mixedOrders = true) (hS : S w.drew)
    (h : S w.drew → wpAnyT P .any ops (Whole (Q .normal)) S e ops.size (Array.replicate ops.size false) a w.drew) : (Code.region id ops true).wp P Q a w := by
  refine wp_mono (wp_region_any hm (wpAny_of_T _ _ _ _ (h hS))) ?_
  rintro (_ | _ | _ | _ | _ | _) a w h <;> first | exact h | exact h.elim
theorem wp_append_run {o : Oper} {a : Act} {w : World} {K : Act → World → Prop}
    (d x : Operand) (dT sT : TypeId) (v u : Value) {v' : Value} {w' : World} (hr : (Builtin.append_ #[dT, sT] o.type #[v, u]).run P w = .ok v' w') (hop : o.op = Op.call { callee := Callee.builtin Builtin.append, args := #[d, x], argTypes := #[dT, sT] })
    (hd : a.eval d = v) (hx : a.eval x = u) (hK : K (a.put o.dst v') w') : Oper.wp P o a w K Q := by
  unfold Oper.wp execOp
  simp only [hop, resolve, invoke, builtin, Sem.run_bind, Sem.run_pure, Result.andThen_ok, List.map_toArray, List.map_cons, List.map_nil, hd, hx, hr]
  exact hK
end
end Go.Fol
