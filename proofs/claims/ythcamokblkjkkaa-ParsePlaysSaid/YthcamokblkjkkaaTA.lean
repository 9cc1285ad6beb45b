/- The document's answer to keys, as plain functions; that the parser's answers are just these. -/
import Derived.Test.YthcamokblkjkkaaWsearch
namespace Go.Proofs.Ythcamokblkjkkaa
open Go Go.RowKit Go.Fol
set_option linter.unusedVariables false
set_option linter.unusedSimpArgs false
def numF : Nat → List Int → Nat × List Int
  | n, [] => (n, [])
  | n, c :: l => if digB (decide (0 < n)) c then numF (dig n c) l else (n, c :: l)
def opB (c : Int) : Bool := c == 100 || c == 99 || c == 121 || c == 60 || c == 62
def tilB (c : Int) : Bool := c == 126 || c == 117 || c == 85
def geB (c : Int) : Bool := c == 103 || c == 101 || c == 69
def tcB (c : Int) : Bool := c == 102 || c == 70 || c == 116 || c == 84 || c == 39 || c == 96
def smallB (c : Int) : Bool := decide (97 ≤ c) && decide (c ≤ 122)
/-- A pattern. -/
def patF (c : Cm) : List Int → List Int → Int × Cm
  | b, [] => (0, czero)
  | b, x :: l =>
    if x == 13 then (1, { c with text := bsOf b }) else if x == 27 || x == 10 then (2, czero)
    else if x == 8 || x == 127 then (if b.length = 0 then (2, czero) else patF c (b.take (b.length - 1)) l)
    else if 64 < b.length + 1 then (2, czero) else patF c (b ++ [x]) l
/-- An object. -/
def objT (c : Cm) : List Int → Int × Cm
  | [] => (0, czero)
  | y :: _ => if objB y == 0 then (2, czero) else (1, { c with arg := objB y })
/-- A motion's second byte. -/
def farT (c : Cm) : List Int → Int × Cm
  | [] => (0, czero)
  | y :: _ => if geB y then (1, { c with name := strg y }) else (2, czero)
/-- What a command's byte may not be. -/
def notB (kind : Int) (y : Int) : Bool := (kind == 0 && y == 27) || (decide (0 < kind) && !smallB y && !(kind == 2 && y == 96) && !(kind == 3 && y == 64))
/-- A command's byte. -/
def argT (c : Cm) (kind : Int) : List Int → Int × Cm
  | [] => (0, czero)
  | y :: _ => if notB kind y then (2, czero) else (1, { c with arg := y })
/-- A motion's byte. -/
def mbyT (c : Cm) : List Int → Int × Cm
  | [] => (0, czero)
  | y :: _ => if y == 27 then (2, czero) else (1, { c with arg := y })
def namedF (x : Int) : ByteArray := if x == 22 then ⟨#[94, 86]⟩ else if x == 18 then ⟨#[94, 82]⟩ else if x == 15 then ⟨#[94, 79]⟩ else if x == 9 then ⟨#[94, 73]⟩ else if x == 27 then ⟨#[101, 115, 99]⟩ else str1 x
def normalT (c : Cm) (x : Int) (l : List Int) : Int × Cm :=
  if cmd1 x || x == 22 || x == 18 || x == 15 || x == 9 then (1, { c with name := namedF x })
  else if x == 114 then argT { c with name := namedF x } 0 l
  else if x == 109 then argT { c with name := namedF x } 2 l
  else if x == 113 then argT { c with name := namedF x } 1 l
  else if x == 64 then argT { c with name := namedF x } 3 l
  else (2, czero)
def seenT (c : Cm) (x : Int) (l : List Int) : Int × Cm :=
  if sel1 x || x == 22 || x == 27 then (1, { c with name := namedF x })
  else if x == 114 then argT { c with name := namedF x } 0 l
  else (2, czero)
/-- Behind counts, registers, the operator. -/
def restT (v : Bool) (c : Cm) (x : Int) (l : List Int) : Int × Cm :=
  if decide (0 < c.op.size) && x == lastB c.op then (1, { c with name := ⟨#[108, 105, 110, 101]⟩ })
  else if (x == 105 || x == 97) && (decide (0 < c.op.size) || v) then objT { c with name := str1 x } l
  else if simpleB x then (1, { c with name := str1 x })
  else if x == 13 then (1, { c with name := ⟨#[43]⟩ })
  else if x == 103 then farT { c with name := str1 x } l
  else if tcB x then mbyT { c with name := str1 x } l
  else if x == 47 || x == 63 then patF { c with name := str1 x } [] l
  else if decide (0 < c.op.size) then (2, czero)
  else if v then seenT { c with name := str1 x } x l
  else normalT { c with name := str1 x } x l
def cntF (n m : Nat) : Nat := if 0 < n ∨ 0 < m then min (max n 1 * max m 1) 9999 else 0
/-- Behind an operator. -/
def tryC (v : Bool) (reg : Int) (n : Nat) (op : ByteArray) (l : List Int) : Int × Cm :=
  match numF 0 l with
  | (_, []) => (0, czero)
  | (m, x :: k) => restT v ⟨reg, cntF n m, op, ⟨#[]⟩, 0, ⟨#[]⟩⟩ x k
/-- Behind names and digits. -/
def tryB (v fst : Bool) (reg : Int) (n : Nat) (x : Int) (l : List Int) : Int × Cm :=
  if !fst && x == 27 then (2, czero)
  else if !v && opB x then tryC v reg n (str1 x) l
  else match l with
    | y :: l' => if !v && x == 103 && tilB y then tryC v reg n (strg y) l' else restT v ⟨reg, cntF n 0, ⟨#[]⟩, ⟨#[]⟩, 0, ⟨#[]⟩⟩ x l
    | [] => restT v ⟨reg, cntF n 0, ⟨#[]⟩, ⟨#[]⟩, 0, ⟨#[]⟩⟩ x l
/-- What keys are. -/
def tryA (v : Bool) : Bool → Int → Nat → List Int → Int × Cm
  | _, _, _, [] => (0, czero)
  | fst, reg, n, [c] => if c == 34 then (0, czero) else if digB (decide (0 < n)) c then (0, czero) else tryB v fst reg n c []
  | fst, reg, n, c :: r :: l =>
    if c == 34 then (if regB r then tryA v false r n l else (2, czero))
    else if digB (decide (0 < n)) c then tryA v false reg (dig n c) (r :: l)
    else tryB v fst reg n c (r :: l)
/-- The parser's own way. -/
def contX : PSt → List Int → Int × Cm
  | _, [] => (0, czero)
  | s, c :: l => if (stepF s c).1 = 0 then contX { (stepF s c).2 with first := false } l else ((stepF s c).1, if (stepF s c).1 = 1 then cmOf (stepF s c).2 else czero)
theorem contX_nil (s : PSt) : contX s [] = (0, czero) := rfl
theorem contX_go {s s' : PSt} {c : Int} {l : List Int} (h : stepF s c = (0, s')) : contX s (c :: l) = contX { s' with first := false } l := by rw [contX, h]; rfl
theorem contX_done {s s' : PSt} {c : Int} {l : List Int} (h : stepF s c = (1, s')) : contX s (c :: l) = (1, cmOf s') := by rw [contX, h]; rfl
theorem contX_bell {s s' : PSt} {c : Int} {l : List Int} (h : stepF s c = (2, s')) : contX s (c :: l) = (2, czero) := by rw [contX, h]; rfl
/-- What a command's data are, but its name, its byte, its text. -/
structure Ha (s : PSt) (c : Cm) : Prop where
  rg : s.reg = c.reg
  cn : ((countF s : Nat) : Int) = c.count
  op : s.op = c.op
theorem Ha.cm {s : PSt} {c : Cm} (h : Ha s c) (nm : ByteArray) (a : Int) (t : ByteArray) (s' : PSt) (h1 : s'.reg = s.reg) (h2 : countF s' = countF s) (h3 : s'.op = s.op) (h4 : s'.name = nm) (h5 : s'.arg = a) (h6 : s'.text = t) : cmOf s' = { c with name := nm, arg := a, text := t } := by
  unfold cmOf
  rw [h1, h2, h3, h4, h5, h6, h.rg, h.cn, h.op]
theorem step_st {s : PSt} {c : Int} (h : ¬ c = 27) : stepF s c = (if s.state = 1 then nameF s c
  else if s.state = 2 then (if tilB c then (0, { s with op := strg c, state := 3 }) else farF s c)
  else if s.state = 3 then operandF s c
  else if s.state = 4 then farF s c
  else if s.state = 5 then objF s c
  else if s.state = 6 then argF s c
  else if s.state = 7 then searchF s c
  else if digB s.aany c then (0, { s with an := dig s.an c, aany := true })
  else if c = 34 then (0, { s with state := 1 })
  else if s.visual then selectedF s c else commandF s c) := by rw [stepF, if_neg h]; rfl
theorem step_27 {s : PSt} (h : s.first = false) : stepF s 27 = (2, s) := by rw [stepF, if_pos rfl, h]; rfl
/-! the last states -/
theorem pat_eq (c : Cm) : ∀ (l : List Int) (b : List Int) (s : PSt), s.first = false → s.state = 7 → Ha s c → s.name = c.name → s.arg = c.arg → s.text = bsOf b → b.length ≤ 64 → contX s l = patF c b l := by
  intro l
  induction l with
  | nil => intro b s _ _ _ _ _ _ _; rfl
  | cons x l ih =>
    intro b s hf hs h hn ha ht hb
    rw [patF]
    have hsz : s.text.size = b.length := by rw [ht, bsOf_size]
    by_cases h27 : x = 27
    · subst h27
      rw [contX_bell (step_27 hf)]
      rfl
    have e27 : (x == 27) = false := by simpa using h27
    have hst : stepF s x = searchF s x := by rw [step_st h27, hs]; rfl
    rw [searchF] at hst
    simp only [e27, Bool.false_or]
    by_cases h13 : (x == 13) = true
    · simp only [h13, if_true] at hst ⊢
      rw [contX_done hst, h.cm c.name c.arg (bsOf b) s rfl rfl rfl hn ha ht]
    simp only [h13, if_false, Bool.false_eq_true] at hst ⊢
    by_cases h10 : (x == 10) = true
    · simp only [h10, if_true] at hst ⊢
      rw [contX_bell hst]
    simp only [h10, if_false, Bool.false_eq_true] at hst ⊢
    by_cases h8 : (x == 8 || x == 127) = true
    · simp only [h8, if_true] at hst ⊢
      by_cases h0 : b.length = 0
      · simp only [hsz, h0, decide_true, if_true] at hst ⊢
        rw [contX_bell hst]
      · simp only [hsz, h0, decide_false, if_false, Bool.false_eq_true] at hst ⊢
        rw [contX_go hst]
        refine ih _ _ rfl hs ⟨h.rg, h.cn, h.op⟩ hn ha ?_ (by simp; omega)
        show s.text.extract 0 (b.length - 1) = _
        rw [ht, bsOf_back _ _ (by omega)]
    simp only [h8, if_false, Bool.false_eq_true] at hst ⊢
    by_cases h64 : b.length = 64
    · simp only [hsz, h64, decide_true, if_true] at hst ⊢
      rw [contX_bell hst, if_pos (by decide)]
    · simp only [hsz, h64, decide_false, if_false, Bool.false_eq_true] at hst
      rw [contX_go hst, if_neg (by omega)]
      refine ih _ _ rfl hs ⟨h.rg, h.cn, h.op⟩ hn ha ?_ (by simp; omega)
      show s.text ++ str1 x = _
      rw [ht, bsOf_snoc]
section
variable {s : PSt} {c : Cm}
theorem obj_eq (l : List Int) (hf : s.first = false) (hs : s.state = 5) (h : Ha s c) (hn : s.name = c.name) (ht : s.text = c.text) : contX s l = objT c l := by
  cases l with
  | nil => rfl
  | cons y l =>
    rw [objT]
    by_cases h27 : y = 27
    · subst h27
      rw [contX_bell (step_27 hf)]
      rfl
    have hst : stepF s y = objF s y := by rw [step_st h27, hs]; rfl
    rw [objF] at hst
    unfold objB
    by_cases b1 : (y == 119 || y == 87 || y == 112 || y == 115 || y == 34 || y == 39 || y == 96) = true
    · simp only [b1, if_true] at hst ⊢
      have h0 : (y == 0) = false := by simp at b1 ⊢; omega
      rw [contX_done hst, h0, if_neg (by simp), h.cm c.name y c.text { s with arg := y } rfl rfl rfl hn rfl ht]
    simp only [b1, if_false, Bool.false_eq_true] at hst ⊢
    by_cases b2 : (y == 40 || y == 41 || y == 98) = true
    · simp only [b2, if_true] at hst ⊢
      rw [contX_done hst, if_neg (by decide), h.cm c.name 40 c.text { s with arg := 40 } rfl rfl rfl hn rfl ht]
    simp only [b2, if_false, Bool.false_eq_true] at hst ⊢
    by_cases b3 : (y == 91 || y == 93) = true
    · simp only [b3, if_true] at hst ⊢
      rw [contX_done hst, if_neg (by decide), h.cm c.name 91 c.text { s with arg := 91 } rfl rfl rfl hn rfl ht]
    simp only [b3, if_false, Bool.false_eq_true] at hst ⊢
    by_cases b4 : (y == 123 || y == 125 || y == 66) = true
    · simp only [b4, if_true] at hst ⊢
      rw [contX_done hst, if_neg (by decide), h.cm c.name 123 c.text { s with arg := 123 } rfl rfl rfl hn rfl ht]
    · simp only [b4, if_false, Bool.false_eq_true] at hst ⊢
      rw [contX_bell hst, if_pos (by decide)]
theorem far_step {y : Int} (hst : stepF s y = farF s y) (l : List Int) (h : Ha s c) (ha : s.arg = c.arg) (ht : s.text = c.text) : contX s (y :: l) = farT c (y :: l) := by
  rw [farF] at hst
  rw [farT, geB]
  by_cases b1 : (y == 103 || y == 101 || y == 69) = true
  · simp only [b1, if_true] at hst ⊢
    rw [contX_done hst, h.cm (strg y) c.arg c.text { s with name := strg y } rfl rfl rfl rfl ha ht]
  · simp only [b1, if_false, Bool.false_eq_true] at hst ⊢
    rw [contX_bell hst]
theorem far_eq (l : List Int) (hf : s.first = false) (hs : s.state = 4) (h : Ha s c) (ha : s.arg = c.arg) (ht : s.text = c.text) : contX s l = farT c l := by
  cases l with
  | nil => rfl
  | cons y l =>
    by_cases h27 : y = 27
    · subst h27
      rw [contX_bell (step_27 hf)]
      rfl
    · exact far_step (by rw [step_st h27, hs]; rfl) l h ha ht
theorem arg_eq (kind : Int) (hb : ∀ y, y ≠ 27 → argB s.name.toList y = notB kind y) (h27b : notB kind 27 = true) (l : List Int) (hf : s.first = false) (hs : s.state = 6) (h : Ha s c) (hn : s.name = c.name) (ht : s.text = c.text) : contX s l = argT c kind l := by
  cases l with
  | nil => rfl
  | cons y l =>
    rw [argT]
    by_cases h27 : y = 27
    · subst h27
      rw [contX_bell (step_27 hf), h27b, if_pos rfl]
    have hst : stepF s y = argF s y := by rw [step_st h27, hs]; rfl
    rw [argF, hb y h27] at hst
    by_cases b1 : notB kind y = true
    · rw [b1, if_pos rfl] at hst ⊢
      rw [contX_bell hst]
    · rw [if_neg b1] at hst ⊢
      rw [contX_done hst, h.cm c.name y c.text { s with arg := y } rfl rfl rfl hn rfl ht]
theorem mby_eq (hb : ∀ y, argB s.name.toList y = false) (l : List Int) (hf : s.first = false) (hs : s.state = 6) (h : Ha s c) (hn : s.name = c.name) (ht : s.text = c.text) : contX s l = mbyT c l := by
  cases l with
  | nil => rfl
  | cons y l =>
    rw [mbyT]
    by_cases h27 : y = 27
    · subst h27
      rw [contX_bell (step_27 hf)]
      rfl
    have e27 : (y == 27) = false := by simpa using h27
    have hst : stepF s y = argF s y := by rw [step_st h27, hs]; rfl
    rw [argF, hb y, if_neg (by simp)] at hst
    rw [e27, if_neg (by simp), contX_done hst, h.cm c.name y c.text { s with arg := y } rfl rfl rfl hn rfl ht]
end
end Go.Proofs.Ythcamokblkjkkaa
