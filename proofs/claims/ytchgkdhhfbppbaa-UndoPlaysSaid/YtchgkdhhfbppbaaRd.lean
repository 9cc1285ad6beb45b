/- A slice of integers that lies inside another value, read (no program in sight). -/
import Derived.Test.YtchgkdhhfbppbaaHeld
namespace Go.Fol
open Go Go.RowKit
set_option linter.unusedVariables false
variable {P : Program}
theorem src_of_parts {w : World} {e : TypeId} {a : Option Addr} {n c : Nat} (h2 : n ≤ c) (h3 : c ≤ maxLen) (h1 : a = none → n = 0 ∧ c = 0) (h5 : RowAt P w e 1 a n) :
    ∃ xs : List Value, SrcV w 1 (.slice a n c) n xs ∧ ∀ x ∈ xs, Rd P w e [x] := by
  by_cases hn : 0 < n
  · obtain ⟨b, off, rfl', hb, hel⟩ := h5 hn
    cases rfl'
    have hex : ∀ m, m ≤ n → ∃ xs : List Value, xs.length = m ∧ (∀ j u, xs[j]? = some u → w.cell? ⟨b, off + j, none⟩ = some u) ∧ ∀ x ∈ xs, Rd P w e [x] := by
      intro m
      induction m with
      | zero => exact fun _ => ⟨[], rfl, by simp, by simp⟩
      | succ m ih =>
        intro hm
        obtain ⟨xs, hl, hc, hr⟩ := ih (by omega)
        obtain ⟨es, he, hrd, hce⟩ := hel m (by omega)
        obtain ⟨x, rfl⟩ : ∃ x, es = [x] := by
          match es, he with
          | [x], _ => exact ⟨x, rfl⟩
        refine ⟨xs ++ [x], by simp [hl], fun j u hj => ?_, fun y hy => ?_⟩
        · by_cases hjm : j < m
          · rw [List.getElem?_append_left (by omega)] at hj
            exact hc j u hj
          · have hjl := (List.getElem?_eq_some_iff.1 hj).1
            simp [hl] at hjl
            obtain rfl : j = m := by omega
            rw [List.getElem?_append_right (by omega), hl] at hj
            simp at hj
            subst hj
            have := hce 0 _ rfl
            simpa using this
        · rcases List.mem_append.1 hy with h | h
          · exact hr y h
          · simp at h; subst h; exact hrd
    obtain ⟨xs, hl, hc, hr⟩ := hex n (Nat.le_refl _)
    exact ⟨xs, .inr ⟨_, _, rfl, h2, h3, by simp [hl], fun j u hj => by rw [Addr.add_lit]; exact hc j u hj⟩, hr⟩
  · obtain rfl : n = 0 := by omega
    cases a with
    | none => obtain ⟨_, rfl⟩ := h1 rfl; exact ⟨[], .inl ⟨rfl, rfl, rfl⟩, by simp⟩
    | some a => exact ⟨[], .inr ⟨_, _, rfl, h2, h3, rfl, by simp⟩, by simp⟩
theorem rd_kind {w : World} {t e : TypeId} {cs : List Value} {kd : IntKind} (ht : P.underlying t = some (.slice e)) (he : P.underlying e = some (.int kd)) (hk : P.cellsOf e = 1) (h : Rd P w t cs) :
    ∃ (l : List Int) (a : Option Addr) (c : Nat), cs = [.slice a l.length c] ∧ SrcV w 1 (.slice a l.length c) l.length (kints kd l) ∧ ∀ x ∈ l, (Lit.int kd x).wf = true := by
  obtain ⟨a, n, c, rfl, h1, h2, h3, h4, h5⟩ := rd_slice ht hk (by decide) h
  obtain ⟨xs, hs, hr⟩ := src_of_parts h2 h3 h1 h5
  have hex : ∀ ys : List Value, (∀ x ∈ ys, Rd P w e [x]) → ∃ l : List Int, ys = kints kd l ∧ ∀ x ∈ l, (Lit.int kd x).wf = true := by
    intro ys
    induction ys with
    | nil => exact fun _ => ⟨[], rfl, by simp⟩
    | cons y ys ih =>
      intro hy
      obtain ⟨l, rfl, hl⟩ := ih (fun x hx => hy x (List.mem_cons_of_mem _ hx))
      obtain ⟨m, hm, hw⟩ := rd_int he (hy y (List.mem_cons_self ..))
      simp at hm
      subst hm
      exact ⟨m :: l, rfl, by simpa using ⟨hw, hl⟩⟩
  obtain ⟨l, rfl, hl⟩ := hex xs hr
  have := hs.len
  simp [kints_len] at this
  subst this
  exact ⟨l, a, c, rfl, hs, hl⟩
end Go.Fol
