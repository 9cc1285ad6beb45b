/- The law ParseSearch on values that read: the plain law. -/
import Derived.Test.YthcamokblkjkkaaWregs
namespace Go.Proofs.Ythcamokblkjkkaa
open Go Go.RowKit Go.Fol
attribute [local go_sem ↓] Go.wp_at_zero Go.wp_at_succ
attribute [local go_sem ↓] run_min2 run_max2
set_option linter.unusedVariables false
set_option linter.unusedSimpArgs false
/-- bytes as a string. -/
def bsOf (l : List Int) : ByteArray := ⟨(l.map (fun c => UInt8.ofNat c.toNat)).toArray⟩
theorem bsOf_size (l : List Int) : (bsOf l).size = l.length := by simp [bsOf, ByteArray.size]
theorem bsOf_snoc (l : List Int) (c : Int) : bsOf l ++ str1 c = bsOf (l ++ [c]) := by
  have : ∀ a b : ByteArray, a.data.toList = b.data.toList → a = b := fun a b h => by
    obtain ⟨⟨x⟩⟩ := a
    obtain ⟨⟨y⟩⟩ := b
    simp at h
    rw [h]
  apply this
  simp [bsOf, str1]
theorem bsOf_back (l : List Int) (n : Nat) (h : n ≤ l.length) : (bsOf l).extract 0 n = bsOf (l.take n) := by
  have : ∀ a b : ByteArray, a.data.toList = b.data.toList → a = b := fun a b h => by
    obtain ⟨⟨x⟩⟩ := a
    obtain ⟨⟨y⟩⟩ := b
    simp at h
    rw [h]
  apply this
  simp [bsOf, List.map_take]
/-- A parser that is told a pattern. -/
structure Srch (s : PSt) (k : List Int) (nm : Int) (t : List Int) : Prop where
  run : runs false pzero k = some s
  opn : s.opn = true
  st : s.state = 7
  rg : s.reg = 0
  aany : s.aany = false
  bany : s.bany = false
  bn : s.bn = 0
  op : s.op = ⟨#[]⟩
  nmv : s.name = str1 nm
  arg : s.arg = 0
  text : s.text = bsOf t
theorem srch_start {nm : Int} (h : nm = 47 ∨ nm = 63) : ∃ s, Srch s [nm] nm [] := by
  rcases h with rfl | rfl
  · exact ⟨_, ⟨rfl, rfl, rfl, rfl, rfl, rfl, rfl, rfl, rfl, rfl, rfl⟩⟩
  · exact ⟨_, ⟨rfl, rfl, rfl, rfl, rfl, rfl, rfl, rfl, rfl, rfl, rfl⟩⟩
section
variable {s : PSt} {k : List Int} {nm : Int} {t : List Int}
theorem Srch.step (h : Srch s k nm t) {c : Int} (hc : ¬ c = 27) : stepF (fstart s false) c = searchF { s with first := false } c := by
  have e : fstart s false = { s with first := false } := by rw [fstart, if_pos h.opn]
  rw [e, stepF, if_neg hc]
  have hs := h.st
  simp [hs]
theorem Srch.type (h : Srch s k nm t) {c : Int} (h27 : ¬ c = 27) (h13 : (c == 13) = false) (h10 : (c == 10) = false) (h8 : (c == 8) = false) (h127 : (c == 127) = false) (ht : t.length < 64) : ∃ s', Srch s' (k ++ [c]) nm (t ++ [c]) := by
  have hst : stepF (fstart s false) c = (0, { s with first := false, text := bsOf (t ++ [c]) }) := by
    rw [h.step h27, searchF]
    simp only [h13, h10, h8, h127, Bool.or_self, if_false, Bool.false_eq_true]
    have hsz : s.text.size = t.length := by rw [h.text, bsOf_size]
    have hd : decide (s.text.size = 64) = false := by simp [hsz]; omega
    simp only [hd, if_false, Bool.false_eq_true]
    rw [h.text, bsOf_snoc]
  have hfe : (feedF s c false).1 = 0 ∧ (feedF s c false).2.2 = { s with first := false, text := bsOf (t ++ [c]) } := by
    unfold feedF
    rw [hst]
    exact ⟨rfl, rfl⟩
  refine ⟨{ s with first := false, text := bsOf (t ++ [c]) }, ⟨?_, h.opn, h.st, h.rg, h.aany, h.bany, h.bn, h.op, h.nmv, h.arg, rfl⟩⟩
  rw [runs_append false k _ _ _ h.run, runs, if_pos hfe.1, hfe.2, runs]
theorem Srch.full (h : Srch s k nm t) {c : Int} (h27 : ¬ c = 27) (h13 : (c == 13) = false) (h10 : (c == 10) = false) (h8 : (c == 8) = false) (h127 : (c == 127) = false) (ht : t.length = 64) (a : Int × Cm) : fedL false pzero (k ++ [c]) a = (2, czero) := by
  have hst : (stepF (fstart s false) c).1 = 2 := by
    rw [h.step h27, searchF]
    simp only [h13, h10, h8, h127, Bool.or_self, if_false, Bool.false_eq_true]
    have hsz : s.text.size = t.length := by rw [h.text, bsOf_size]
    have hd : decide (s.text.size = 64) = true := by simp [hsz]; omega
    simp only [hd, if_true]
  rw [fedL_runs false c k pzero s a h.run]
  unfold feedF
  rw [hst]
  rfl
theorem Srch.back (h : Srch s k nm t) (ht : 0 < t.length) : ∃ s', Srch s' (k ++ [8]) nm (t.take (t.length - 1)) := by
  have hsz : s.text.size = t.length := by rw [h.text, bsOf_size]
  have hst : stepF (fstart s false) 8 = (0, { s with first := false, text := bsOf (t.take (t.length - 1)) }) := by
    rw [h.step (by decide), searchF]
    have hd : decide (s.text.size = 0) = false := by simp [hsz]; intro e; rw [e] at ht; simp at ht
    simp only [hd, show ((8 : Int) == 13) = false from rfl, show ((8 : Int) == 10) = false from rfl, show ((8 : Int) == 8) = true from rfl, Bool.true_or, if_true, if_false, Bool.false_eq_true]
    rw [hsz, h.text, bsOf_back _ _ (by omega)]
  have hfe : (feedF s 8 false).1 = 0 ∧ (feedF s 8 false).2.2 = { s with first := false, text := bsOf (t.take (t.length - 1)) } := by
    unfold feedF
    rw [hst]
    exact ⟨rfl, rfl⟩
  refine ⟨{ s with first := false, text := bsOf (t.take (t.length - 1)) }, ⟨?_, h.opn, h.st, h.rg, h.aany, h.bany, h.bn, h.op, h.nmv, h.arg, rfl⟩⟩
  rw [runs_append false k _ _ _ h.run, runs, if_pos hfe.1, hfe.2, runs]
theorem Srch.under (h : Srch s k nm []) (a : Int × Cm) : fedL false pzero (k ++ [8]) a = (2, czero) := by
  have hsz : s.text.size = 0 := by rw [h.text, bsOf_size]; rfl
  have hst : (stepF (fstart s false) 8).1 = 2 := by
    rw [h.step (by decide), searchF]
    have hd : decide (s.text.size = 0) = true := by simp [hsz]
    simp only [hd, show ((8 : Int) == 13) = false from rfl, show ((8 : Int) == 10) = false from rfl, show ((8 : Int) == 8) = true from rfl, Bool.true_or, if_true, if_false, Bool.false_eq_true]
  rw [fedL_runs false 8 k pzero s a h.run]
  unfold feedF
  rw [hst]
  rfl
theorem Srch.done (h : Srch s k nm t) (a : Int × Cm) : fedL false pzero (k ++ [13]) a = (1, ⟨0, 0, ⟨#[]⟩, str1 nm, 0, bsOf t⟩) := by
  have hst : stepF (fstart s false) 13 = (1, { s with first := false }) := by
    rw [h.step (by decide), searchF]
    simp only [show ((13 : Int) == 13) = true from rfl, if_true]
  rw [fedL_runs false 13 k pzero s a h.run]
  unfold feedF
  rw [hst]
  simp only [if_true]
  have hcm : cmOf { s with first := false } = ⟨0, 0, ⟨#[]⟩, str1 nm, 0, bsOf t⟩ := by
    have hc : countF { s with first := false } = 0 := by simp [countF, h.aany, h.bany, h.bn]
    unfold cmOf
    rw [hc]
    simp only [h.rg, h.op, h.nmv, h.arg, h.text]
    rfl
  rw [hcm]
end
/-- Keys that leave something pending, as fed. -/
theorem runs_fed {k : List Int} {c : Int} {s' : PSt} (h : runs false pzero (k ++ [c]) = some s') (a : Int × Cm) : fedL false pzero (k ++ [c]) a = (0, czero) := by
  have hsome : ∀ (k : List Int) (s : PSt), runs false s (k ++ [c]) = some s' → ∃ s1, runs false s k = some s1 ∧ (feedF s1 c false).1 = 0 := by
    intro k
    induction k with
    | nil =>
      intro s h
      rw [List.nil_append, runs] at h
      split at h
      · exact ⟨s, rfl, by assumption⟩
      · cases h
    | cons d k ih =>
      intro s h
      rw [List.cons_append, runs] at h
      split at h
      · rename_i h0
        obtain ⟨s1, h1, h2⟩ := ih _ h
        exact ⟨s1, by rw [runs, if_pos h0]; exact h1, h2⟩
      · cases h
  obtain ⟨s1, h1, h2⟩ := hsome k pzero h
  rw [fedL_runs false c k pzero s1 a h1, h2]
  unfold feedF at h2 ⊢
  simp only at h2 ⊢
  rw [h2]
  rfl
/-- string(b) of a slice that can be read. -/
theorem conv_src {W : World} {v : Value} {l : List Int} (hb : bytesB l) (h : SrcV W 1 v l.length (kints .u8 l)) : (convert 22 9 v).run Try.prog W = .ok (.string (bsOf l)) W := by
  rcases h with ⟨rfl, h0, _⟩ | ⟨a, c, rfl, _, _, _, hc⟩
  · obtain rfl : l = [] := List.eq_nil_of_length_eq_zero h0
    rw [run_convert_bytes_string W 22 9 5 none 0 0 Try.underlying22 Try.underlying5 Try.underlying9]
    rfl
  · have hl : (l.map (fun c => UInt8.ofNat c.toNat)).length = l.length := by simp
    have := run_convert_bytes_back (P := Try.prog) W 22 9 5 a c (l.map (fun c => UInt8.ofNat c.toNat)) Try.underlying22 Try.underlying5 Try.underlying9 (fun j hj => by
      have hj' : j < l.length := by simpa using hj
      have hx := hb l[j] (List.getElem_mem hj')
      rw [hc j (.int .u8 l[j]) (by simp [kints, hj'])]
      simp
      omega)
    rw [hl] at this
    exact this
end Go.Proofs.Ythcamokblkjkkaa
