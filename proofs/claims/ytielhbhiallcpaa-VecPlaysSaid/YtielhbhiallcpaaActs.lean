/- A script's acts, read. -/
import Derived.Test.YtielhbhiallcpaaChecked
import Derived.Test.YtielhbhiallcpaaHeld
namespace Go.Proofs.Ytielhbhiallcpaa
open Go Go.RowKit Go.Fol
set_option linter.unusedVariables false
set_option linter.unusedSimpArgs false

/-- A slice of integers, read out of a variable. -/
theorem rd_ints {P : Program} {w : World} {t e : TypeId} {cs : List Value} (ht : P.underlying t = some (.slice e)) (he : P.underlying e = some (.int .i64)) (hk : P.cellsOf e = 1) (hb : P.bytesOf e = 8) (h : Rd P w t cs) :
    ∃ v, ∃ l : List Int, cs = [v] ∧ SrcV w 1 v l.length (ints l) ∧ l.length * 8 ≤ 140737488351232 ∧ ∀ x ∈ l, (Lit.int .i64 x).wf = true := by
  obtain ⟨a, n, c, rfl, h1, h2, h3, h4, h5⟩ := rd_slice ht hk (by decide) h
  have h4' : n * 8 ≤ 140737488351232 := by rw [hb] at h4; exact Nat.le_trans (Nat.mul_le_mul_right _ h2) h4
  cases a with
  | none =>
    obtain ⟨rfl, rfl⟩ := h1 rfl
    exact ⟨_, [], rfl, .inl ⟨rfl, rfl, rfl⟩, by simp, by simp⟩
  | some a =>
    by_cases hn : 0 < n
    · obtain ⟨b, off, rfl', hbl, hel⟩ := h5 hn
      cases rfl'
      have hex : ∀ m, m ≤ n → ∃ l : List Int, l.length = m ∧ (∀ j u, (ints l)[j]? = some u → w.cell? ⟨b, off + j, none⟩ = some u) ∧ ∀ x ∈ l, (Lit.int .i64 x).wf = true := by
        intro m
        induction m with
        | zero => exact fun _ => ⟨[], rfl, by simp [ints], by simp⟩
        | succ m ih =>
          intro hm
          obtain ⟨l, hl, hc, hr⟩ := ih (by omega)
          obtain ⟨es, hes, hrd, hce⟩ := hel m (by omega)
          obtain ⟨x, rfl, hw⟩ := rd_int he hrd
          refine ⟨l ++ [x], by simp [hl], fun j u hj => ?_, fun y hy => ?_⟩
          · rw [ints_append] at hj
            by_cases hjm : j < m
            · rw [List.getElem?_append_left (by rw [ints_len]; omega)] at hj
              exact hc j u hj
            · have hjl := (List.getElem?_eq_some_iff.1 hj).1
              rw [List.length_append, ints_len, ints_len, hl] at hjl
              obtain rfl : j = m := by simp at hjl; omega
              rw [List.getElem?_append_right (by rw [ints_len]; omega), ints_len, hl] at hj
              simp [ints] at hj
              subst hj
              have := hce 0 _ rfl
              simpa using this
          · rcases List.mem_append.1 hy with h | h
            · exact hr y h
            · simp at h; subst h; exact hw
      obtain ⟨l, hl, hc, hr⟩ := hex n (Nat.le_refl _)
      exact ⟨_, l, rfl, .inr ⟨_, _, by rw [hl], by omega, h3, by simp [ints_len], fun j u hj => by rw [Addr.add_lit]; exact hc j u hj⟩, by omega, hr⟩
    · obtain rfl : n = 0 := by omega
      exact ⟨_, [], rfl, .inr ⟨_, _, rfl, h2, h3, rfl, by simp [ints]⟩, by simp, by simp⟩

theorem act_of {w : World} {es : List Value} (hl : es.length = 4) (h : Rd Try.prog w 36 es) :
    ∃ (a i n : Int) (x : Value) (xs : List Int), es = [.int .u8 a, .int .i64 i, .int .i64 n, x] ∧ (0 ≤ a ∧ a ≤ 255) ∧ (-9223372036854775808 ≤ i ∧ i ≤ 9223372036854775807) ∧ (-9223372036854775808 ≤ n ∧ n ≤ 9223372036854775807) ∧ SrcV w 1 x xs.length (ints xs) ∧ xs.length * 8 ≤ 140737488351232 := by
  obtain ⟨e0, e1, e2, e3, rfl⟩ : ∃ e0 e1 e2 e3, es = [e0, e1, e2, e3] := by
    match es, hl with
    | [a, b, c, d], _ => exact ⟨a, b, c, d, rfl⟩
  have hs := (rd_struct Try.underlying36 h).2
  obtain ⟨a, ha, wa⟩ := rd_int Try.underlying5 (hs 0 _ rfl)
  obtain ⟨i, hi, wi⟩ := rd_int Try.underlying3 (hs 1 _ rfl)
  obtain ⟨n, hn, wn⟩ := rd_int Try.underlying3 (hs 2 _ rfl)
  obtain ⟨x, xs, hx, h1, h2, _⟩ := rd_ints Try.underlying31 Try.underlying3 (by kernel_rfl) (by kernel_rfl) (hs 3 _ rfl)
  have ha : [e0] = [.int .u8 a] := ha
  have hi : [e1] = [.int .i64 i] := hi
  have hn : [e2] = [.int .i64 n] := hn
  have hx : [e3] = [x] := hx
  cases ha; cases hi; cases hn; cases hx
  refine ⟨a, i, n, e3, xs, rfl, ?_, ?_, ?_, h1, h2⟩
  · simpa [Lit.wf, IntKind.min, IntKind.max, IntKind.signed, IntKind.bits] using wa
  · simpa [Lit.wf, IntKind.min, IntKind.max, IntKind.signed, IntKind.bits] using wi
  · simpa [Lit.wf, IntKind.min, IntKind.max, IntKind.signed, IntKind.bits] using wn
end Go.Proofs.Ytielhbhiallcpaa
