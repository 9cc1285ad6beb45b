/- That the parser's answers are just the document's: the states ahead of the last. -/
import Derived.Test.YthcamokblkjkkaaTA
namespace Go.Proofs.Ythcamokblkjkkaa
open Go Go.RowKit Go.Fol
set_option linter.unusedVariables false
set_option linter.unusedSimpArgs false
/-- Motions of one key, and what begins one; otherwise K. -/
def midT (c : Cm) (x : Int) (l : List Int) (K : Int × Cm) : Int × Cm :=
  if simpleB x then (1, { c with name := str1 x })
  else if x == 13 then (1, { c with name := ⟨#[43]⟩ })
  else if x == 103 then farT { c with name := str1 x } l
  else if tcB x then mbyT { c with name := str1 x } l
  else if x == 47 || x == 63 then patF { c with name := str1 x } [] l
  else K
theorem restT_mid (v : Bool) (c : Cm) (x : Int) (l : List Int) : restT v c x l =
  if decide (0 < c.op.size) && x == lastB c.op then (1, { c with name := ⟨#[108, 105, 110, 101]⟩ })
  else if (x == 105 || x == 97) && (decide (0 < c.op.size) || v) then objT { c with name := str1 x } l
  else midT c x l (if decide (0 < c.op.size) then (2, czero) else if v then seenT { c with name := str1 x } x l else normalT { c with name := str1 x } x l) := rfl
theorem tcB_cases {x : Int} (h : tcB x = true) : x = 102 ∨ x = 70 ∨ x = 116 ∨ x = 84 ∨ x = 39 ∨ x = 96 := by
  simp [tcB] at h; omega
theorem arg_tc {x : Int} (h : tcB x = true) (y : Int) : argB (str1 x).toList y = false := by
  rw [ByteArray.toList_eq]
  rcases tcB_cases h with rfl | rfl | rfl | rfl | rfl | rfl <;> rfl
theorem mid_eq {s : PSt} {c : Cm} {x : Int} (hst : stepF s x = motionF s x) (h : Ha s c) (ha : s.arg = c.arg) (ht : s.text = c.text) (h0 : s.text = ⟨#[]⟩) (l : List Int) : contX s (x :: l) = midT c x l (2, czero) := by
  rw [motionF] at hst
  unfold midT
  by_cases h13 : x = 13
  · subst h13
    have hst' : stepF s 13 = (1, { s with name := ⟨#[43]⟩ }) := hst
    rw [contX_done hst', h.cm ⟨#[43]⟩ c.arg c.text { s with name := ⟨#[43]⟩ } rfl rfl rfl rfl ha ht]
    rfl
  by_cases h103 : x = 103
  · subst h103
    have hst' : stepF s 103 = (0, { s with state := 4 }) := hst
    refine (contX_go hst').trans ?_
    exact far_eq (c := { c with name := str1 103 }) l rfl rfl ⟨h.rg, h.cn, h.op⟩ ha ht
  have e13 : (x == 13) = false := by simpa using h13
  have e103 : (x == 103) = false := by simpa using h103
  rw [e13, e103, if_neg (by simp), if_neg (by simp)] at hst
  rw [e13, e103]
  cases htc : tcB x with
  | true =>
    have hsb : simpleB x = false := by rcases tcB_cases htc with rfl | rfl | rfl | rfl | rfl | rfl <;> rfl
    have htc' : (x == 102 || x == 70 || x == 116 || x == 84 || x == 39 || x == 96) = true := htc
    rw [htc', if_pos rfl] at hst
    rw [hsb]
    refine (contX_go hst).trans ?_
    exact mby_eq (c := { c with name := str1 x }) (arg_tc htc) l rfl rfl ⟨h.rg, h.cn, h.op⟩ rfl ht
  | false =>
    have htc' : (x == 102 || x == 70 || x == 116 || x == 84 || x == 39 || x == 96) = false := htc
    rw [htc', if_neg (by simp)] at hst
    cases hp : (x == 47 || x == 63) with
    | true =>
      have hsb : simpleB x = false := by simp at hp; rcases hp with rfl | rfl <;> rfl
      rw [hp, if_pos rfl] at hst
      rw [hsb]
      refine (contX_go hst).trans ?_
      exact pat_eq { c with name := str1 x } l [] _ rfl rfl ⟨h.rg, h.cn, h.op⟩ rfl ha h0 (by simp)
    | false =>
      rw [hp, if_neg (by simp)] at hst
      cases hsb : simpleB x with
      | true =>
        rw [hsb, if_pos rfl] at hst
        rw [contX_done hst, h.cm (str1 x) c.arg c.text { s with name := str1 x } rfl rfl rfl rfl ha ht]
        rfl
      | false =>
        rw [hsb, if_neg (by simp)] at hst
        rw [contX_bell hst]
        rfl
theorem mid_other {c : Cm} {x : Int} {l : List Int} {K : Int × Cm} (h : simpleB x = false) (h13 : ¬ x = 13) (h103 : ¬ x = 103) (ht : tcB x = false) (hp : (x == 47 || x == 63) = false) : midT c x l K = K := by
  have e13 : (x == 13) = false := by simpa using h13
  have e103 : (x == 103) = false := by simpa using h103
  rw [midT, h, e13, e103, ht, hp]
  rfl
theorem mid_hit {c : Cm} {x : Int} {l : List Int} {K K' : Int × Cm} (h : simpleB x = true ∨ x = 13 ∨ x = 103 ∨ tcB x = true ∨ (x == 47 || x == 63) = true) : midT c x l K = midT c x l K' := by
  unfold midT
  rcases h with h | rfl | rfl | h | h
  · rw [h]; rfl
  · rfl
  · rfl
  · rw [h]; rfl
  · rw [h]; rfl
theorem dig_pos {m : Nat} {c : Int} (h : digB (decide (0 < m)) c = true) : 0 < dig m c := by
  simp [digB] at h
  unfold dig
  omega
theorem dig_27 {b : Bool} : digB b 27 = false := rfl
theorem dig_34 {b : Bool} : digB b 34 = false := rfl
/-- What is told ahead of a command's key. -/
structure Pre (s : PSt) (v : Bool) (reg : Int) (n : Nat) : Prop where
  vis : s.visual = v
  rg : s.reg = reg
  an : s.an = n
  any : s.aany = decide (0 < n)
  n9 : n ≤ 9999
  arg : s.arg = 0
  text : s.text = ⟨#[]⟩
theorem Pre.cnt {s : PSt} {v : Bool} {reg : Int} {n m : Nat} (h : Pre s v reg n) (hb : s.bn = m) (hy : s.bany = decide (0 < m)) (hm : m ≤ 9999) : countF s = cntF n m := by
  unfold countF cntF
  rw [h.any, h.an, hb, hy]
  have := h.n9
  by_cases h1 : 0 < n <;> by_cases h2 : 0 < m
  · simp [h1, h2]
    rw [Nat.max_eq_left (by omega), Nat.max_eq_left (by omega)]
  · obtain rfl : m = 0 := by omega
    simp [h1]
    omega
  · obtain rfl : n = 0 := by omega
    simp [h2]
    omega
  · obtain rfl : n = 0 := by omega
    obtain rfl : m = 0 := by omega
    rfl
theorem tryC_eq {v : Bool} {reg : Int} {n : Nat} {op : ByteArray} (ho : 0 < op.size) (h27 : ¬ lastB op = 27) : ∀ (l : List Int) (m : Nat) (s : PSt), Pre s v reg n → s.first = false → s.state = 3 → s.op = op → s.bn = m → s.bany = decide (0 < m) → m ≤ 9999 →
    contX s l = match numF m l with
      | (_, []) => (0, czero)
      | (m', x :: k) => restT false ⟨reg, cntF n m', op, ⟨#[]⟩, 0, ⟨#[]⟩⟩ x k := by
  intro l
  induction l with
  | nil => intro m s _ _ _ _ _ _ _; rfl
  | cons x l ih =>
    intro m s h hf hs hop hb hy hm
    by_cases hd : digB (decide (0 < m)) x = true
    · have hx : ¬ x = 27 := by intro e; subst e; rw [dig_27] at hd; cases hd
      have hst : stepF s x = operandF s x := by rw [step_st hx, hs]; rfl
      rw [operandF, if_pos (by rw [hy]; exact hd)] at hst
      rw [contX_go hst, numF, if_pos hd]
      refine ih (dig m x) _ ⟨h.vis, h.rg, h.an, h.any, h.n9, h.arg, h.text⟩ rfl hs hop ?_ ?_ (dig_le _ _)
      · show dig s.bn x = _; rw [hb]
      · show true = _; rw [decide_eq_true (dig_pos hd)]
    · rw [numF, if_neg hd]
      have hHa : Ha s ⟨reg, cntF n m, op, ⟨#[]⟩, 0, ⟨#[]⟩⟩ := ⟨h.rg, by rw [h.cnt hb hy hm], hop⟩
      show contX s (x :: l) = restT false ⟨reg, cntF n m, op, ⟨#[]⟩, 0, ⟨#[]⟩⟩ x l
      rw [restT_mid]
      simp only [decide_eq_true ho, Bool.true_and, Bool.true_or, Bool.and_true, if_true]
      by_cases hx : x = 27
      · subst hx
        have e : ((27 : Int) == lastB op) = false := by rw [beq_eq_false_iff_ne]; exact fun e => h27 e.symm
        rw [contX_bell (step_27 hf), e]
        rfl
      have hst : stepF s x = operandF s x := by rw [step_st hx, hs]; rfl
      rw [operandF, if_neg (by rw [hy]; exact hd)] at hst
      by_cases hl : (x == lastB op) = true
      · rw [if_pos (by rw [hop]; exact hl)] at hst
        rw [hl, if_pos rfl]
        rw [contX_done hst, hHa.cm ⟨#[108, 105, 110, 101]⟩ 0 ⟨#[]⟩ { s with name := ⟨#[108, 105, 110, 101]⟩ } rfl rfl rfl rfl h.arg h.text]
      rw [if_neg (by rw [hop]; exact hl)] at hst
      rw [if_neg hl]
      by_cases hi : (x == 105 || x == 97) = true
      · rw [hi, if_pos rfl] at hst ⊢
        refine (contX_go hst).trans ?_
        exact obj_eq (c := ⟨reg, cntF n m, op, str1 x, 0, ⟨#[]⟩⟩) l rfl rfl ⟨hHa.rg, hHa.cn, hHa.op⟩ rfl h.text
      rw [if_neg hi] at hst ⊢
      exact mid_eq hst hHa h.arg h.text h.text l
theorem sel1_cases {x : Int} (h : sel1 x = true) : x = 100 ∨ x = 120 ∨ x = 121 ∨ x = 99 ∨ x = 115 ∨ x = 60 ∨ x = 62 ∨ x = 126 ∨ x = 117 ∨ x = 85 ∨ x = 74 ∨ x = 111 ∨ x = 118 ∨ x = 86 ∨ x = 73 ∨ x = 65 := by
  simp [sel1] at h; omega
theorem cmd1_cases {x : Int} (h : cmd1 x = true) : x = 105 ∨ x = 97 ∨ x = 73 ∨ x = 65 ∨ x = 111 ∨ x = 79 ∨ x = 82 ∨ x = 120 ∨ x = 88 ∨ x = 115 ∨ x = 83 ∨ x = 68 ∨ x = 67 ∨ x = 89 ∨ x = 112 ∨ x = 80 ∨ x = 74 ∨ x = 126 ∨ x = 117 ∨ x = 46 ∨ x = 118 ∨ x = 86 := by
  simp [cmd1] at h; omega
theorem not114 (y : Int) (h : y ≠ 27) : argB (str1 114).toList y = notB 0 y := by
  rw [ByteArray.toList_eq]
  simp [argB, notB, str1, h]
theorem not109 (y : Int) (h : y ≠ 27) : argB (str1 109).toList y = notB 2 y := by
  rw [ByteArray.toList_eq]
  simp [argB, notB, str1, smallB]
  rfl
theorem not113 (y : Int) (h : y ≠ 27) : argB (str1 113).toList y = notB 1 y := by
  rw [ByteArray.toList_eq]
  simp [argB, notB, str1, smallB]
theorem not64 (y : Int) (h : y ≠ 27) : argB (str1 64).toList y = notB 3 y := by
  rw [ByteArray.toList_eq]
  simp [argB, notB, str1, smallB]
  rfl
section
variable {s : PSt} {reg : Int} {n : Nat}
theorem rest_seen {x : Int} (h : Pre s true reg n) (hb : s.bn = 0) (hy : s.bany = false) (ho : s.op = ⟨#[]⟩) (hst : stepF s x = selectedF s x) (hx : ¬ x = 27) (l : List Int) : contX s (x :: l) = restT true ⟨reg, cntF n 0, ⟨#[]⟩, ⟨#[]⟩, 0, ⟨#[]⟩⟩ x l := by
  have hHa : Ha s ⟨reg, cntF n 0, ⟨#[]⟩, ⟨#[]⟩, 0, ⟨#[]⟩⟩ := ⟨h.rg, by rw [h.cnt hb hy (by decide)], ho⟩
  have done : ∀ nm, stepF s x = (1, { s with name := nm }) → contX s (x :: l) = (1, ⟨reg, cntF n 0, ⟨#[]⟩, nm, 0, ⟨#[]⟩⟩) := fun nm e => by
    rw [contX_done e, hHa.cm nm 0 ⟨#[]⟩ { s with name := nm } rfl rfl rfl rfl h.arg h.text]
  rw [selectedF] at hst
  by_cases h1 : sel1 x = true
  · rw [h1, if_pos rfl] at hst
    rw [done _ hst]
    rcases sel1_cases h1 with rfl | rfl | rfl | rfl | rfl | rfl | rfl | rfl | rfl | rfl | rfl | rfl | rfl | rfl | rfl | rfl <;> rfl
  rw [if_neg h1] at hst
  by_cases h2 : (x == 105 || x == 97) = true
  · rw [h2, if_pos rfl] at hst
    rw [restT_mid, h2]
    refine (contX_go hst).trans ?_
    exact obj_eq (c := ⟨reg, cntF n 0, ⟨#[]⟩, str1 x, 0, ⟨#[]⟩⟩) l rfl rfl ⟨hHa.rg, hHa.cn, hHa.op⟩ rfl h.text
  rw [if_neg h2] at hst
  by_cases h3 : x = 114
  · subst h3
    refine (contX_go (s' := { s with name := str1 114, state := 6 }) hst).trans ?_
    exact arg_eq (c := ⟨reg, cntF n 0, ⟨#[]⟩, str1 114, 0, ⟨#[]⟩⟩) 0 not114 rfl l rfl rfl ⟨hHa.rg, hHa.cn, hHa.op⟩ rfl h.text
  have e3 : (x == 114) = false := by simpa using h3
  rw [e3, if_neg (by simp)] at hst
  by_cases h4 : x = 22
  · subst h4
    rw [done _ hst]
    rfl
  have e4 : (x == 22) = false := by simpa using h4
  rw [e4, if_neg (by simp)] at hst
  rw [mid_eq hst hHa h.arg h.text h.text l, restT_mid]
  have e2 : (x == 105 || x == 97) = false := by simpa using h2
  have e1 : sel1 x = false := by simpa using h1
  have e5 : (x == 27) = false := by simpa using hx
  rw [e2]
  show midT _ x l _ = midT _ x l (seenT _ x l)
  rw [seenT, e1, e3, e4, e5]
  rfl
theorem rest_normal {x : Int} (h : Pre s false reg n) (hb : s.bn = 0) (hy : s.bany = false) (ho : s.op = ⟨#[]⟩) (hst : stepF s x = commandF s x) (hop : opB x = false) (hg : ¬ x = 103) (l : List Int) : contX s (x :: l) = restT false ⟨reg, cntF n 0, ⟨#[]⟩, ⟨#[]⟩, 0, ⟨#[]⟩⟩ x l := by
  have hHa : Ha s ⟨reg, cntF n 0, ⟨#[]⟩, ⟨#[]⟩, 0, ⟨#[]⟩⟩ := ⟨h.rg, by rw [h.cnt hb hy (by decide)], ho⟩
  have done : ∀ nm, stepF s x = (1, { s with name := nm }) → contX s (x :: l) = (1, ⟨reg, cntF n 0, ⟨#[]⟩, nm, 0, ⟨#[]⟩⟩) := fun nm e => by
    rw [contX_done e, hHa.cm nm 0 ⟨#[]⟩ { s with name := nm } rfl rfl rfl rfl h.arg h.text]
  have hop' : (x == 100 || x == 99 || x == 121 || x == 60 || x == 62) = false := hop
  have eg : (x == 103) = false := by simpa using hg
  rw [commandF, hop', if_neg (by simp), eg, if_neg (by simp)] at hst
  by_cases h1 : cmd1 x = true
  · rw [h1, if_pos rfl] at hst
    rw [done _ hst]
    rcases cmd1_cases h1 with rfl | rfl | rfl | rfl | rfl | rfl | rfl | rfl | rfl | rfl | rfl | rfl | rfl | rfl | rfl | rfl | rfl | rfl | rfl | rfl | rfl | rfl <;> rfl
  rw [if_neg h1] at hst
  by_cases h3 : (x == 114 || x == 109 || x == 113 || x == 64) = true
  · rw [h3, if_pos rfl] at hst
    have h3' : x = 114 ∨ x = 109 ∨ x = 113 ∨ x = 64 := by simp at h3; omega
    rcases h3' with rfl | rfl | rfl | rfl
    · refine (contX_go hst).trans ?_
      exact arg_eq (c := ⟨reg, cntF n 0, ⟨#[]⟩, str1 114, 0, ⟨#[]⟩⟩) 0 not114 rfl l rfl rfl ⟨hHa.rg, hHa.cn, hHa.op⟩ rfl h.text
    · refine (contX_go hst).trans ?_
      exact arg_eq (c := ⟨reg, cntF n 0, ⟨#[]⟩, str1 109, 0, ⟨#[]⟩⟩) 2 not109 rfl l rfl rfl ⟨hHa.rg, hHa.cn, hHa.op⟩ rfl h.text
    · refine (contX_go hst).trans ?_
      exact arg_eq (c := ⟨reg, cntF n 0, ⟨#[]⟩, str1 113, 0, ⟨#[]⟩⟩) 1 not113 rfl l rfl rfl ⟨hHa.rg, hHa.cn, hHa.op⟩ rfl h.text
    · refine (contX_go hst).trans ?_
      exact arg_eq (c := ⟨reg, cntF n 0, ⟨#[]⟩, str1 64, 0, ⟨#[]⟩⟩) 3 not64 rfl l rfl rfl ⟨hHa.rg, hHa.cn, hHa.op⟩ rfl h.text
  rw [if_neg h3] at hst
  by_cases h4 : x = 22
  · subst h4; rw [done _ hst]; rfl
  by_cases h5 : x = 18
  · subst h5; rw [done _ hst]; rfl
  by_cases h6 : x = 15
  · subst h6; rw [done _ hst]; rfl
  by_cases h7 : x = 9
  · subst h7; rw [done _ hst]; rfl
  have e4 : (x == 22) = false := by simpa using h4
  have e5 : (x == 18) = false := by simpa using h5
  have e6 : (x == 15) = false := by simpa using h6
  have e7 : (x == 9) = false := by simpa using h7
  rw [e4, e5, e6, e7, if_neg (by simp), if_neg (by simp), if_neg (by simp), if_neg (by simp)] at hst
  rw [mid_eq hst hHa h.arg h.text h.text l, restT_mid]
  have e1 : cmd1 x = false := by simpa using h1
  have e3 : (x == 114) = false ∧ (x == 109) = false ∧ (x == 113) = false ∧ (x == 64) = false := by simp at h3 ⊢; omega
  have e2 : ((x == 105 || x == 97) && (decide (0 < (⟨#[]⟩ : ByteArray).size) || false)) = false := by
    rw [show (decide (0 < (⟨#[]⟩ : ByteArray).size) || false) = false from rfl, Bool.and_false]
  rw [e2]
  show midT _ x l _ = midT _ x l (normalT _ x l)
  rw [normalT, e1, e3.1, e3.2.1, e3.2.2.1, e3.2.2.2, e4, e5, e6, e7]
  rfl
end
theorem opB_cases {x : Int} (h : opB x = true) : x = 100 ∨ x = 99 ∨ x = 121 ∨ x = 60 ∨ x = 62 := by simp [opB] at h; omega
theorem tilB_cases {x : Int} (h : tilB x = true) : x = 126 ∨ x = 117 ∨ x = 85 := by simp [tilB] at h; omega
theorem tryB_eq {s : PSt} {v : Bool} {reg : Int} {n : Nat} {x : Int} (h : Pre s v reg n) (hs : s.state = 0) (hb : s.bn = 0) (hy : s.bany = false) (ho : s.op = ⟨#[]⟩) (h34 : ¬ x = 34) (hd : digB (decide (0 < n)) x = false) (l : List Int) : contX s (x :: l) = tryB v s.first reg n x l := by
  unfold tryB
  have hHa : Ha s ⟨reg, cntF n 0, ⟨#[]⟩, ⟨#[]⟩, 0, ⟨#[]⟩⟩ := ⟨h.rg, by rw [h.cnt hb hy (by decide)], ho⟩
  by_cases h27 : x = 27
  · subst h27
    cases hf : s.first with
    | false =>
      rw [contX_bell (step_27 hf)]
      rfl
    | true =>
      cases v with
      | false =>
        have hst : stepF s 27 = (2, s) := by rw [stepF, if_pos rfl, hf, h.vis]; rfl
        rw [contX_bell hst]
        cases l <;> rfl
      | true =>
        have hst : stepF s 27 = (1, { s with name := ⟨#[101, 115, 99]⟩ }) := by rw [stepF, if_pos rfl, hf, h.vis]; rfl
        rw [contX_done hst, hHa.cm ⟨#[101, 115, 99]⟩ 0 ⟨#[]⟩ { s with name := ⟨#[101, 115, 99]⟩ } rfl rfl rfl rfl h.arg h.text]
        cases l <;> rfl
  have e27 : (x == 27) = false := by simpa using h27
  have hst : stepF s x = if v then selectedF s x else commandF s x := by
    rw [step_st h27, hs, h.any, hd, if_neg (by decide), if_neg (by decide), if_neg (by decide), if_neg (by decide), if_neg (by decide), if_neg (by decide), if_neg (by decide), if_neg (by simp), if_neg h34, h.vis]
  rw [e27, Bool.and_false, if_neg (by simp)]
  cases v with
  | true =>
    rw [if_pos rfl] at hst
    have := rest_seen h hb hy ho hst h27 l
    cases l <;> exact this
  | false =>
    rw [if_neg (by simp)] at hst
    by_cases hop : opB x = true
    · rw [hop]
      have hst' : stepF s x = (0, { s with op := str1 x, state := 3 }) := by
        rw [hst, commandF, show (x == 100 || x == 99 || x == 121 || x == 60 || x == 62) = true from hop]; rfl
      have hl : ¬ lastB (str1 x) = 27 := by rcases opB_cases hop with rfl | rfl | rfl | rfl | rfl <;> decide
      refine (contX_go hst').trans ?_
      exact tryC_eq (v := false) (reg := reg) (n := n) (op := str1 x) (by show 0 < 1; decide) hl l 0 _ ⟨h.vis, h.rg, h.an, h.any, h.n9, h.arg, h.text⟩ rfl rfl rfl hb hy (by decide)
    have eop : opB x = false := by simpa using hop
    rw [eop]
    by_cases hg : x = 103
    · subst hg
      have hst' : stepF s 103 = (0, { s with state := 2 }) := hst
      rw [contX_go hst']
      cases l with
      | nil => rfl
      | cons y l =>
        show contX { s with state := 2, first := false } (y :: l) = if tilB y then tryC false reg n (strg y) l else restT false ⟨reg, cntF n 0, ⟨#[]⟩, ⟨#[]⟩, 0, ⟨#[]⟩⟩ 103 (y :: l)
        by_cases hy27 : y = 27
        · subst hy27
          rw [contX_bell (step_27 rfl)]
          rfl
        have hst2 : stepF { s with state := 2, first := false } y = if tilB y then (0, { s with state := 3, first := false, op := strg y }) else farF { s with state := 2, first := false } y := by
          rw [step_st hy27]
          rfl
        by_cases ht : tilB y = true
        · rw [ht, if_pos rfl] at hst2 ⊢
          have hl : ¬ lastB (strg y) = 27 := by rcases tilB_cases ht with rfl | rfl | rfl <;> decide
          refine (contX_go hst2).trans ?_
          exact tryC_eq (v := false) (reg := reg) (n := n) (op := strg y) (by show 0 < 2; decide) hl l 0 _ ⟨h.vis, h.rg, h.an, h.any, h.n9, h.arg, h.text⟩ rfl rfl rfl hb hy (by decide)
        · rw [if_neg ht] at hst2 ⊢
          exact far_step (c := ⟨reg, cntF n 0, ⟨#[]⟩, str1 103, 0, ⟨#[]⟩⟩) hst2 l ⟨hHa.rg, hHa.cn, hHa.op⟩ h.arg h.text
    have eg : (x == 103) = false := by simpa using hg
    have := rest_normal h hb hy ho hst eop hg l
    rw [eg]
    cases l <;> exact this
theorem tryA_cons (v fst : Bool) (reg : Int) (n : Nat) (c : Int) (l : List Int) : tryA v fst reg n (c :: l) = if c == 34 then (match l with
      | [] => (0, czero)
      | r :: l' => if regB r then tryA v false r n l' else (2, czero))
    else if digB (decide (0 < n)) c then tryA v false reg (dig n c) l
    else tryB v fst reg n c l := by cases l <;> rfl
theorem tryA_eq {v : Bool} : ∀ (k : Nat) (l : List Int), l.length ≤ k → ∀ (s : PSt) (reg : Int) (n : Nat), Pre s v reg n → s.state = 0 → s.bn = 0 → s.bany = false → s.op = ⟨#[]⟩ → contX s l = tryA v s.first reg n l := by
  intro k
  induction k with
  | zero =>
    intro l hl s reg n _ _ _ _ _
    obtain rfl : l = [] := List.eq_nil_of_length_eq_zero (by omega)
    rfl
  | succ k ih =>
    intro l hl s reg n h hs hb hy ho
    cases l with
    | nil => rfl
    | cons c l =>
      rw [List.length_cons] at hl
      rw [tryA_cons]
      by_cases h34 : c = 34
      · subst h34
        have hst : stepF s 34 = (0, { s with state := 1 }) := by
          rw [step_st (by decide), hs, h.any, dig_34]
          rfl
        rw [contX_go hst]
        cases l with
        | nil => rfl
        | cons r l =>
          rw [List.length_cons] at hl
          show contX _ _ = if regB r then _ else _
          by_cases hr27 : r = 27
          · subst hr27
            rw [contX_bell (step_27 rfl)]
            rfl
          have hst2 : stepF { s with state := 1, first := false } r = nameF { s with state := 1, first := false } r := by rw [step_st hr27]; rfl
          rw [nameF] at hst2
          by_cases hr : regB r = true
          · rw [hr, if_pos rfl] at hst2 ⊢
            rw [contX_go hst2]
            exact ih l (by omega) _ r n ⟨h.vis, rfl, h.an, h.any, h.n9, h.arg, h.text⟩ rfl hb hy ho
          · rw [if_neg hr] at hst2 ⊢
            rw [contX_bell hst2]
      have e34 : (c == 34) = false := by simpa using h34
      rw [e34, if_neg (by simp)]
      by_cases hd : digB (decide (0 < n)) c = true
      · have hx : ¬ c = 27 := by intro e; subst e; rw [dig_27] at hd; cases hd
        have hst : stepF s c = (0, { s with an := dig s.an c, aany := true }) := by
          rw [step_st hx, hs, h.any, hd]
          rfl
        rw [hd, if_pos rfl, contX_go hst]
        refine ih l (by omega) _ reg (dig n c) ⟨h.vis, h.rg, ?_, ?_, dig_le _ _, h.arg, h.text⟩ hs hb hy ho
        · show dig s.an c = _; rw [h.an]
        · show true = _; rw [decide_eq_true (dig_pos hd)]
      · have ed : digB (decide (0 < n)) c = false := by simpa using hd
        rw [ed, if_neg (by simp)]
        exact tryB_eq h hs hb hy ho h34 ed l
set_option maxHeartbeats 2000000 in
theorem step_opn (s : PSt) (c : Int) : (stepF s c).2.opn = s.opn := by
  have hm : (motionF s c).2.opn = s.opn := by unfold motionF; (repeat' split) <;> rfl
  have hf : (farF s c).2.opn = s.opn := by unfold farF; split <;> rfl
  unfold stepF
  split
  · split <;> rfl
  split
  · unfold nameF; split <;> rfl
  split
  · split
    · rfl
    · exact hf
  split
  · unfold operandF
    repeat' split
    all_goals first | rfl | exact hm
  split
  · exact hf
  split
  · unfold objF; (repeat' split) <;> rfl
  split
  · unfold argF; split <;> rfl
  split
  · unfold searchF; (repeat' split) <;> rfl
  split
  · rfl
  split
  · rfl
  split
  · unfold selectedF
    repeat' split
    all_goals first | rfl | exact hm
  · unfold commandF
    repeat' split
    all_goals first | rfl | exact hm
/-- What keys are, from the first one on. -/
def tryF (v : Bool) (l : List Int) : Int × Cm := tryA v true 0 0 l
theorem contX_runs {v : Bool} {c : Int} : ∀ (k : List Int) (s s' : PSt), runs v s k = some s' → contX (fstart s v) (k ++ [c]) = ((feedF s' c v).1, (feedF s' c v).2.1) := by
  intro k
  induction k with
  | nil =>
    intro s s' h
    cases h
    unfold feedF
    by_cases h0 : (stepF (fstart s v) c).1 = 0
    · rw [List.nil_append, contX, if_pos h0]
      show (0, czero) = ((stepF (fstart s v) c).1, if (stepF (fstart s v) c).1 = 1 then cmOf (stepF (fstart s v) c).2 else czero)
      rw [h0, if_neg (by decide)]
    · rw [List.nil_append, contX, if_neg h0]
  | cons d k ih =>
    intro s s' h
    rw [runs] at h
    split at h
    · rename_i h0
      have := ih _ _ h
      have h0' : (stepF (fstart s v) d).1 = 0 := h0
      rw [List.cons_append, contX, if_pos h0', ← this]
      have ho : (feedF s d v).2.2 = (stepF (fstart s v) d).2 := by show (if (stepF (fstart s v) d).1 = 0 then (stepF (fstart s v) d).2 else pzero) = _; rw [if_pos h0']
      rw [ho]
      have hop : (stepF (fstart s v) d).2.opn = true := by
        rw [step_opn]
        unfold fstart
        split
        · assumption
        · rfl
      rw [show fstart (stepF (fstart s v) d).2 v = { (stepF (fstart s v) d).2 with first := false } by rw [fstart, if_pos hop]]
    · cases h
/-- The parser's answer to a key is the document's to all. -/
theorem feed_try {v : Bool} {k : List Int} {c : Int} {s : PSt} (h : runs v pzero k = some s) : tryF v (k ++ [c]) = ((feedF s c v).1, (feedF s c v).2.1) := by
  rw [← contX_runs k pzero s h]
  exact (tryA_eq (v := v) (k ++ [c]).length (k ++ [c]) (Nat.le_refl _) (fstart pzero v) 0 0 ⟨rfl, rfl, rfl, rfl, by decide, rfl, rfl⟩ rfl rfl rfl rfl).symm
end Go.Proofs.Ythcamokblkjkkaa
