/- What a row's list of variables gives; carried on. No program in sight. -/
import Derived.Test.YtlehgghidcaodaaDoorSep
import Derived.Lib.LaidTab
import Derived.Sort.Grow
namespace Go.Fol
open Go Go.RowKit
set_option linter.unusedVariables false
theorem laid_tail {P : Program} {w : World} {x : String × DataW Unit} {rest : List (String × DataW Unit)} {ps : List MemPlace} (h : DataW.LaidVars P w (x :: rest) ps) : ∃ q, DataW.LaidVars P w rest q := by
  obtain ⟨g', t', cs, fuel, p, q, hg', ht', hvar, hd, h1, h2⟩ := h
  exact ⟨q, h1⟩
theorem laid_head {P : Program} {w : World} {name : String} {k : IntKind} {zs : List Int} {rest : List (String × DataW Unit)} {ps : List MemPlace} {g : Nat} {t e : TypeId} {n : Nat}
    (hg : P.globalNamed name = some g) (hty : (P.globals[g]?).map (·.type) = some t) (ht : P.underlying t = some (.array n e)) (he : P.underlying e = some (.int k)) (hce : P.cellsOf e = 1) (hct : P.cellsOf t = n)
    (h : DataW.LaidVars P w ((name, Lib.tabData k zs) :: rest) ps) : Lib.TabIs P w name k zs := by
  obtain ⟨g', t', cs, fuel, p, q, hg', ht', hvar, hd, _, _⟩ := h
  obtain rfl := Option.some.inj (hg.symm.trans hg')
  obtain rfl := Option.some.inj (hty.symm.trans ht')
  unfold Lib.TabIs
  rw [hvar, ← Lib.cells_of_tab ht he hce hct hd]
theorem tab_keep {P : Program} {w w' : World} {name : String} {k : IntKind} {zs : List Int} (h : Lib.TabIs P w name k zs) (c : Chg [] w w') : Lib.TabIs P w' name k zs := by
  unfold Lib.TabIs World.var? at *
  cases hg : P.globalNamed name with
  | none => simp [hg] at h
  | some g =>
    rw [hg] at h
    simp only [Option.bind_some] at h ⊢
    have hlt : g < w.heap.size := by
      rcases Nat.lt_or_ge g w.heap.size with h' | h'
      · exact h'
      · rw [Array.getElem?_eq_none h'] at h; cases h
    rw [c.block g hlt (by simp)]
    exact h
theorem grow_chg (w : World) (k : Nat) (os : Array Obj) : Chg [] w (Go.Sort.grow (w.drewN k) os) :=
  ⟨rfl, rfl, rfl, by simp [Go.Sort.grow], fun b hb _ => by
    show (w.heap ++ os)[b]? = _
    rw [Array.getElem?_append_left hb]⟩
end Go.Fol
