/- The law ParseCounts: the plain law; the document's digits. -/
import Derived.Test.YthcamokblkjkkaaWregs
namespace Go.Proofs.Ythcamokblkjkkaa
open Go Go.RowKit Go.Fol
attribute [local go_sem ↓] Go.wp_at_zero Go.wp_at_succ
attribute [local go_sem ↓] run_min2 run_max2
set_option linter.unusedVariables false
set_option linter.unusedSimpArgs false
theorem wf_u32 {x : Int} (h : (Lit.int .u32 x).wf = true) : 0 ≤ x ∧ x ≤ 4294967295 := by simpa [Lit.wf, IntKind.min, IntKind.max, IntKind.signed, IntKind.bits] using h
/-- A number's digits. -/
def digsL (n : Nat) : List Int := if n < 10 then [48 + (n : Int)] else digsL (n / 10) ++ [48 + ((n % 10 : Nat) : Int)]
termination_by n
decreasing_by omega
theorem digsL_lt {n : Nat} (h : n < 10) : digsL n = [48 + (n : Int)] := by rw [digsL, if_pos h]
theorem digsL_ge {n : Nat} (h : ¬ n < 10) : digsL n = digsL (n / 10) ++ [48 + ((n % 10 : Nat) : Int)] := by rw [digsL, if_neg h]
theorem digsL_bytes (n : Nat) : bytesB (digsL n) := by
  induction n using Nat.strongRecOn with
  | _ n ih =>
    by_cases h : n < 10
    · rw [digsL_lt h]
      intro x hx
      simp at hx
      omega
    · rw [digsL_ge h]
      intro x hx
      rcases List.mem_append.1 hx with h1 | h1
      · exact ih (n / 10) (by omega) x h1
      · simp at h1
        omega
theorem digsL_len : ∀ f n, n < 10 ^ (f + 1) → (digsL n).length ≤ f + 1 := by
  intro f
  induction f with
  | zero => intro n hn; rw [digsL_lt (by omega)]; simp
  | succ f ih =>
    intro n hn
    by_cases h : n < 10
    · rw [digsL_lt h]; simp
    · rw [digsL_ge h, List.length_append]
      have := ih (n / 10) (by rw [Nat.pow_succ] at hn; omega)
      simp
      exact this
/-- Keys one behind another: the last one's answer. -/
def lastF (v : Bool) : PSt → Int × Cm → List Int → (Int × Cm) × PSt
  | s, a, [] => (a, s)
  | s, a, c :: l => lastF v (feedF s c v).2.2 ((feedF s c v).1, (feedF s c v).2.1) l
theorem lastF_runs {v : Bool} {c : Int} : ∀ (k : List Int) (s s' : PSt) (a : Int × Cm), runs v s k = some s' → lastF v s a (k ++ [c]) = (((feedF s' c v).1, (feedF s' c v).2.1), (feedF s' c v).2.2)
  | [], s, s', a, h => by cases h; rfl
  | d :: k, s, s', a, h => by
    rw [runs] at h
    split at h
    · exact lastF_runs k _ _ _ h
    · cases h
theorem ahead_digs (n : Nat) (h : 0 < n) : ∃ s, Ahead false s (digsL n) 0 (min n 9999) := by
  induction n using Nat.strongRecOn with
  | _ n ih =>
    by_cases h10 : n < 10
    · rw [digsL_lt h10]
      obtain ⟨s, hs⟩ := (ahead_nil false).digit (d := n) (by omega) (by omega) (by omega)
      rw [show dig 0 (48 + (n : Int)) = min n 9999 by unfold dig; omega] at hs
      exact ⟨s, hs⟩
    · rw [digsL_ge h10]
      obtain ⟨s, hs⟩ := ih (n / 10) (by omega) (by omega)
      obtain ⟨s, hs⟩ := hs.digit (d := ((n % 10 : Nat) : Int)) (by omega) (by omega) (by omega)
      rw [show dig (min (n / 10) 9999) (48 + ((n % 10 : Nat) : Int)) = min n 9999 by unfold dig; omega] at hs
      exact ⟨s, hs⟩
/-- A parser behind an operator. -/
structure Behind (s : PSt) (k : List Int) (a n : Nat) : Prop where
  run : runs false pzero k = some s
  opn : s.opn = true
  st : s.state = 3
  rg : s.reg = 0
  an : s.an = a
  any : s.aany = true
  bn : s.bn = n
  bany : s.bany = decide (0 < n)
  op : s.op = str1 100
  arg : s.arg = 0
  text : s.text = ⟨#[]⟩
theorem Ahead.oper {s : PSt} {k : List Int} {a : Nat} (h : Ahead false s k 0 a) (ha : 0 < a) : ∃ s', Behind s' (k ++ [100]) a 0 := by
  obtain ⟨a1, a2, a3, a4, a5, a6, a7, a8, a9, a10, a11⟩ := h.start
  have hst : stepF (fstart s false) 100 = (0, { fstart s false with op := str1 100, state := 3 }) := by
    rw [stepF, if_neg (by decide), if_neg (by omega), if_neg (by omega), if_neg (by omega), if_neg (by omega), if_neg (by omega), if_neg (by omega), if_neg (by omega), show digB (fstart s false).aany 100 = false from rfl, if_neg (by simp), if_neg (by decide), a2, if_neg (by simp)]
    rfl
  have hfe : (feedF s 100 false).1 = 0 ∧ (feedF s 100 false).2.2 = { fstart s false with op := str1 100, state := 3 } := by
    unfold feedF
    rw [hst]
    exact ⟨rfl, rfl⟩
  refine ⟨{ fstart s false with op := str1 100, state := 3 }, ⟨?_, a1, rfl, a4, a5, ?_, a7, a8, rfl, a10, a11⟩⟩
  · rw [runs_append false k _ _ _ h.run, runs, if_pos hfe.1, hfe.2, runs]
  · show (fstart s false).aany = true
    rw [a6]
    simpa using ha
section
variable {s : PSt} {k : List Int} {a n : Nat}
theorem Behind.step (h : Behind s k a n) {c : Int} (hc : ¬ c = 27) : stepF (fstart s false) c = operandF { s with first := false } c := by
  have e : fstart s false = { s with first := false } := by rw [fstart, if_pos h.opn]
  rw [e, stepF, if_neg hc]
  have hs := h.st
  simp [hs]
theorem Behind.digit (h : Behind s k a n) {d : Int} (h0 : 0 ≤ d) (h9 : d ≤ 9) (hd : 0 < d ∨ 0 < n) : ∃ s', Behind s' (k ++ [48 + d]) a (dig n (48 + d)) := by
  have hdb : digB s.bany (48 + d) = true := by
    rw [h.bany]
    simp [digB]
    omega
  have hst : stepF (fstart s false) (48 + d) = (0, { s with first := false, bn := dig n (48 + d), bany := true }) := by
    rw [h.step (by omega), operandF]
    simp only [hdb, if_true]
    rw [h.bn]
  have hfe : (feedF s (48 + d) false).1 = 0 ∧ (feedF s (48 + d) false).2.2 = { s with first := false, bn := dig n (48 + d), bany := true } := by
    unfold feedF
    rw [hst]
    exact ⟨rfl, rfl⟩
  refine ⟨{ s with first := false, bn := dig n (48 + d), bany := true }, ⟨?_, h.opn, h.st, h.rg, h.an, h.any, rfl, ?_, h.op, h.arg, h.text⟩⟩
  · rw [runs_append false k _ _ _ h.run, runs, if_pos hfe.1, hfe.2, runs]
  · have : 0 < dig n (48 + d) := by unfold dig; omega
    simp [this]
theorem Behind.digs (h : Behind s k a 0) (n : Nat) (hn : 0 < n) : ∃ s', Behind s' (k ++ digsL n) a (min n 9999) := by
  induction n using Nat.strongRecOn with
  | _ n ih =>
    by_cases h10 : n < 10
    · rw [digsL_lt h10]
      obtain ⟨s, hs⟩ := h.digit (d := n) (by omega) (by omega) (by omega)
      rw [show dig 0 (48 + (n : Int)) = min n 9999 by unfold dig; omega] at hs
      exact ⟨s, hs⟩
    · rw [digsL_ge h10]
      obtain ⟨s, hs⟩ := ih (n / 10) (by omega) (by omega)
      obtain ⟨s, hs⟩ := hs.digit (d := ((n % 10 : Nat) : Int)) (by omega) (by omega) (by omega)
      rw [show dig (min (n / 10) 9999) (48 + ((n % 10 : Nat) : Int)) = min n 9999 by unfold dig; omega, List.append_assoc] at hs
      exact ⟨s, hs⟩
theorem Behind.w (h : Behind s k a n) (hn : 0 < n) (x : Int × Cm) : lastF false pzero x (k ++ [119]) = ((1, ⟨0, (min (a * n) 9999 : Nat), ⟨#[100]⟩, ⟨#[119]⟩, 0, ⟨#[]⟩⟩), pzero) := by
  have hst : stepF (fstart s false) 119 = (1, { s with first := false, name := str1 119 }) := by
    rw [h.step (by decide), operandF]
    have e : digB s.bany 119 = false := rfl
    have e2 : ((119 : Int) == lastB s.op) = false := by rw [h.op]; rfl
    simp only [e, e2, Bool.false_eq_true, if_false]
    rfl
  rw [lastF_runs k pzero s x h.run]
  unfold feedF
  rw [hst]
  have hc : countF { s with first := false, name := str1 119 } = min (a * n) 9999 := by
    simp only [countF, h.an, h.any, h.bn, h.bany, decide_eq_true hn, Bool.and_self, if_true]
  have hcm : cmOf { s with first := false, name := str1 119 } = ⟨0, (min (a * n) 9999 : Nat), ⟨#[100]⟩, ⟨#[119]⟩, 0, ⟨#[]⟩⟩ := by
    unfold cmOf
    rw [hc]
    simp only [h.rg, h.op, h.arg, h.text]
    rfl
  simp only [if_true, hcm]
  rfl
end
/-- What the counts' keys come to. -/
theorem counts_plain (a b : Nat) (ha : 0 < a) (hb : 0 < b) (x : Int × Cm) :
    lastF false pzero x (digsL a ++ [100] ++ digsL b ++ [119]) = ((1, ⟨0, (min (min a 9999 * min b 9999) 9999 : Nat), ⟨#[100]⟩, ⟨#[119]⟩, 0, ⟨#[]⟩⟩), pzero) := by
  obtain ⟨s, hs⟩ := ahead_digs a ha
  obtain ⟨s, hs⟩ := hs.oper (by omega)
  obtain ⟨s, hs⟩ := hs.digs b hb
  exact hs.w (by omega) x
section
variable {w0 w : World} {R : List Asrt}
theorem pdigits : ∀ (f n : Nat) (w : World), f ≤ 17 → n < 10 ^ (f + 1) → Owns w0 w R →
    Calls Try.prog 17 #[.int .i64 n] w (RetX (fun v : Value => v) w0 (fun v => row_byte v (digsL n).length (kints .u8 (digsL n)) :: R)) := by
  intro f
  induction f with
  | zero =>
    intro n w hf hn H
    have h10 : n < 10 := by omega
    have h3 := (H.alloc #[.int .u8 (48 + (n : Int))] 5).rowOf (k := 1) 1 1 (Nat.le_refl _) (by decide) rfl
    have hmx : max (n : Int) 0 = n := by omega
    have hlt : (n : Int) < 10 := by omega
    have H3 := Lib.hid h3
    clear h3 H
    go_enter Try.func17, Try.ntmps17
    go_wp2_with fail
    go_ret
    exact ⟨_, rfl, by rw [digsL_lt h10]; exact H3.out⟩
  | succ f ih =>
    intro n w hf hn H
    by_cases h10 : n < 10
    · have h3 := (H.alloc #[.int .u8 (48 + (n : Int))] 5).rowOf (k := 1) 1 1 (Nat.le_refl _) (by decide) rfl
      have hmx : max (n : Int) 0 = n := by omega
      have hlt : (n : Int) < 10 := by omega
      have H3 := Lib.hid h3
      clear h3 H hn
      go_enter Try.func17, Try.ntmps17
      go_wp2_with fail
      go_ret
      exact ⟨_, rfl, by rw [digsL_lt h10]; exact H3.out⟩
    · have hlt : ¬ ((n : Int) < 10) := by omega
      have hn2 : n / 10 < 10 ^ (f + 1) := by rw [Nat.pow_succ] at hn; omega
      have hln := digsL_len f (n / 10) hn2
      have HC := Lib.hid (ih (n / 10) w (by omega) hn2 H)
      have hn63 : n < 10 ^ 18 := Nat.lt_of_lt_of_le hn (Nat.pow_le_pow_right (by decide) (by omega))
      have hn64 : (n : Int) < 10 ^ 18 := by omega
      clear H hn
      go_enter Try.func17, Try.ntmps17
      go_wp2_with fail
      refine HC.out.mono ?_
      rintro e w2 ⟨v, rfl, h2⟩
      have h7 := (h2.alloc #[.int .u8 (48 + (n : Int) % 10)] 5).p1
      obtain ⟨kv2, w4, hrun, h8⟩ := app_byte (x := .slice (some ⟨w2.heap.size, 0, none⟩) 1 1) (m := 1) (vs := [.int .u8 (48 + (n : Int) % 10)]) h7 (Reads.obj (b := w2.heap.size) (k := 1) (n := 1) (t := 5) (f := (0, 0)) (cs := #[.int .u8 (48 + (n : Int) % 10)]) (by simp) (by decide) (by decide) (by simp)) (by simp [Value.oneCell']) (by unfold maxLen; omega) (by omega)
      have h9 : Owns w0 w4 (row_byte kv2 (digsL n).length (kints .u8 (digsL n)) :: R) := by
        rw [digsL_ge h10, kints_append, List.length_append]
        exact h8.p1.drop
      have H9 := Lib.hid h9
      have m0 : 0 ≤ (n : Int) % 10 := by omega
      have m9 : (n : Int) % 10 ≤ 9 := by omega
      clear h2 h7 h8 h9 HC h10 hn2 hln
      go_wp2_with (at_builtin; refine Lib.wpList_append_run _ rfl _ _ _ _ rfl _ _ rfl rfl _ _ (hrun _) ?_)
      go_ret
      exact ⟨_, rfl, H9.out⟩
end
set_option maxHeartbeats 4000000 in
set_option maxRecDepth 100000 in
theorem parseCounts_walk (w : World) (v0 v1 v2 v3 : Value) (a0 : Arg Try.prog w 37 v0) (a1 : Arg Try.prog w 37 v1) (a2 : Arg Try.prog w 5 v2) (a3 : Arg Try.prog w 5 v3) :
    Calls Try.prog 4 #[v0, v1, v2, v3] w fun e w' => e = .returned (.bool true) ∧ Below w.heap.size w w' := by
  obtain ⟨a, rfl, ha⟩ := arg_int Try.underlying37 a0
  obtain ⟨b, rfl, hb⟩ := arg_int Try.underlying37 a1
  obtain ⟨op, rfl, hop⟩ := arg_int Try.underlying5 a2
  obtain ⟨nm, rfl, hnm⟩ := arg_int Try.underlying5 a3
  have hra := wf_u32 ha
  have hrb := wf_u32 hb
  have ha0 : 0 ≤ a := hra.1
  have hb0 : 0 ≤ b := hrb.1
  obtain ⟨A, hA⟩ : ∃ A : Nat, (A : Int) = a % 200000 := ⟨(a % 200000).toNat, by omega⟩
  obtain ⟨B, hB⟩ : ∃ B : Nat, (B : Int) = b % 200000 := ⟨(b % 200000).toNat, by omega⟩
  have hAl : A < 200000 := by omega
  have hBl : B < 200000 := by omega
  have hA' := hA.symm
  have hB' := hB.symm
  clear a0 a1 a2 a3 ha hb hop hnm hra hrb hA hB
  go_enter Try.func4, Try.ntmps4
  go_wp2_with fail
  refine (known_true (Owns.start w)).mono ?_
  rintro e w1 ⟨rfl, h1⟩
  have H1 := Lib.hid h1
  clear h1
  go_wp2_with fail
  refine (pdigits 5 A w1 (by decide) (by omega) H1.out).mono ?_
  rintro e w2 ⟨v, rfl, h2⟩
  obtain ⟨xa, hxa⟩ : ∃ xa, xa = digsL A := ⟨_, rfl⟩
  have hxal : xa.length ≤ 6 := by rw [hxa]; exact digsL_len 5 A (by omega)
  have hxab : bytesB xa := by rw [hxa]; exact digsL_bytes A
  rw [← hxa] at h2
  have h3 := (h2.alloc #[.int .u8 100] 5).p1
  obtain ⟨kv1, w3, hrun, h4⟩ := app_byte (x := .slice (some ⟨w2.heap.size, 0, none⟩) 1 1) (m := 1) (vs := [.int .u8 100]) h3 (Reads.obj (b := w2.heap.size) (k := 1) (n := 1) (t := 5) (f := (0, 0)) (cs := #[.int .u8 100]) (by simp) (by decide) (by decide) (by simp)) (by simp [Value.oneCell']) (by unfold maxLen; omega) (by omega)
  have h5 : Owns w w3 [row_byte kv1 (xa ++ [100]).length (kints .u8 (xa ++ [100]))] := by
    rw [kints_append, List.length_append]
    exact h4.p1.drop
  have Hxa := Lib.hid hxa
  have Hxab := Lib.hid hxab
  have H5 := Lib.hid h5
  clear h2 h3 h4 h5 hxa hxab H1
  go_wp2_with (at_builtin; refine Lib.wpList_append_run _ rfl _ _ _ _ rfl _ _ rfl rfl _ _ (hrun _) ?_)
  refine (pdigits 5 B w3 (by decide) (by omega) H5.out).mono ?_
  rintro e w4 ⟨v2, rfl, h6⟩
  obtain ⟨xb, hxb⟩ : ∃ xb, xb = digsL B := ⟨_, rfl⟩
  have hxbl : xb.length ≤ 6 := by rw [hxb]; exact digsL_len 5 B (by omega)
  have hxbb : bytesB xb := by rw [hxb]; exact digsL_bytes B
  rw [← hxb] at h6
  obtain ⟨kv2, w5, hrun2, h7⟩ := app_byte (x := v2) (m := xb.length) (vs := kints .u8 xb) h6.p1 (Reads.row (e := 5) (by simp)) (by simp [kints, Value.oneCell']) (by simp; unfold maxLen; omega) (by simp; omega)
  have h8 : Owns w w5 [row_byte kv2 (xa ++ [100] ++ xb).length (kints .u8 (xa ++ [100] ++ xb))] := by
    rw [kints_append, List.length_append]
    exact h7.p1.drop
  have h9 := (h8.alloc #[.int .u8 119] 5).p1
  obtain ⟨kv3, w6, hrun3, h10⟩ := app_byte (x := .slice (some ⟨w5.heap.size, 0, none⟩) 1 1) (m := 1) (vs := [.int .u8 119]) h9 (Reads.obj (b := w5.heap.size) (k := 1) (n := 1) (t := 5) (f := (0, 0)) (cs := #[.int .u8 119]) (by simp) (by decide) (by decide) (by simp)) (by simp [Value.oneCell']) (by simp; unfold maxLen; omega) (by simp; omega)
  have h11 : Owns w w6 [row_byte kv3 (xa ++ [100] ++ xb ++ [119]).length (kints .u8 (xa ++ [100] ++ xb ++ [119]))] := by
    rw [kints_append, List.length_append]
    exact h10.p1.drop
  obtain ⟨l, hl⟩ : ∃ l, l = xa ++ [100] ++ xb ++ [119] := ⟨_, rfl⟩
  rw [← hl] at h11
  have hll : l.length ≤ 20 := by rw [hl]; simp; omega
  have hlb : bytesB l := by
    rw [hl]
    intro x hx
    simp only [List.mem_append, List.mem_singleton] at hx
    rcases hx with ((h | h) | h) | h
    · exact Hxab.out x h
    · omega
    · exact hxbb x h
    · omega
  obtain ⟨ka, kc, rfl⟩ := row_slice h11.row
  have Hlb := Lib.hid hlb
  have Hl := Lib.hid (show l = digsL A ++ [100] ++ digsL B ++ [119] by rw [hl, Hxa.out, hxb])
  have H11 := Lib.hid h11
  clear h6 h7 h8 h9 h10 h11 hxb hxbb H5 Hxa Hxab hl hlb hxal hxbl
  go_wp2_with (at_builtin; first | refine Lib.wpList_append_run _ rfl _ _ _ _ rfl _ _ rfl rfl _ _ (hrun2 _) ?_ | refine Lib.wpList_append_run _ rfl _ _ _ _ rfl _ _ rfl rfl _ _ (hrun3 _) ?_)
  all_goals first | (go_ret; exact ⟨rfl, H11.out.below⟩) | skip
  have hA0 : 0 < A := by
    rcases Nat.eq_zero_or_pos A with h | h
    · subst h; simp at *
    · exact h
  have hB0 : 0 < B := by
    rcases Nat.eq_zero_or_pos B with h | h
    · subst h; simp at *
    · exact h
  obtain ⟨cm, hcm⟩ : ∃ cm : Cm, cm = ⟨0, (min (min A 9999 * min B 9999) 9999 : Nat), ⟨#[100]⟩, ⟨#[119]⟩, 0, ⟨#[]⟩⟩ := ⟨_, rfl⟩
  have hfd : lastF false pzero (0, czero) l = ((1, cm), pzero) := by rw [Hl.out, hcm]; exact counts_plain A B hA0 hB0 _
  have Hcm := Lib.hid hcm
  have Hfd := Lib.hid hfd
  clear hrun hrun2 hrun3 Hl hcm hfd
  refine (pnew H11.out).mono ?_
  rintro e w7 ⟨p, rfl, h12⟩
  have h13 := h12.alloc czero.cells 33
  obtain ⟨W3, hW3⟩ : ∃ W3, w7.alloc (.cells czero.cells 33) = W3 := ⟨_, rfl⟩
  obtain ⟨C, hC⟩ : ∃ C, C = w7.heap.size := ⟨_, rfl⟩
  rw [hW3, ← hC] at h13
  have HW3 := Lib.hid hW3
  have HC := Lib.hid hC
  have H13 := Lib.hid h13
  clear h12 h13 hW3 hC H11
  go_upto_region 10 with (fail)
  rw [show Obj.cells #[Value.int IntKind.u8 0, Value.int IntKind.i64 0, Value.string { data := #[] }, Value.string { data := #[] }, Value.int IntKind.u8 0, Value.string { data := #[] }] 33 = Obj.cells czero.cells 33 from rfl, HW3.out, ← HC.out]
  clear HW3 HC
  go_wp2_with fail
  go_loopg [11, 13] l.length (fun gk rv q wr => ∃ (i : Nat) (s : PSt) (ri : Int) (ci : Cm), gk + i = l.length ∧ q = .int .i64 i ∧ rv = .int .i64 ri ∧ s.ok ∧ lastF false s (ri, ci) (l.drop i) = ((1, cm), pzero) ∧ Owns w wr (cobj C ci :: pobj p s :: [row_byte (.slice ka l.length kc) l.length (kints .u8 l)]))
  case atStart => exact ⟨0, pzero, 0, czero, rfl, rfl, rfl, ok_zero, by rw [List.drop_zero]; exact Hfd.out, H13.out⟩
  case round =>
    obtain ⟨i, s, ri, ci, hgi, rfl, rfl, hok, hfd, h4⟩ := hrel
    have H4 := Lib.hid h4
    have Hok := Lib.hid hok
    by_cases hlt : i < l.length
    · obtain ⟨c, hc⟩ : ∃ c, l[i]? = some c := ⟨_, List.getElem?_eq_getElem hlt⟩
      have hcr := Hlb.out c (List.mem_of_getElem? hc)
      have hc0 : 0 ≤ c := hcr.1
      have hc1 : c ≤ 255 := hcr.2
      rcases row_form h4.p2.row with ⟨_, h, _⟩ | ⟨kb, cap, cur, e2, _, hnc, hmx, _⟩
      · omega
      cases e2
      have kx := h4.p2.row.cells (g := kb) rfl i (.int .u8 c) (by simp [kints, hc])
      rw [Addr.add_lit, Nat.zero_add] at kx
      have hdr : l.drop i = c :: l.drop (i + 1) := by
        obtain ⟨h1, h2⟩ := List.getElem?_eq_some_iff.1 hc
        rw [List.drop_eq_getElem_cons h1, h2]
      rw [hdr, lastF] at hfd
      have hp := pfeed false hc0 hc1 hok h4.p1
      obtain ⟨rf, cf, sf, hfe⟩ : ∃ rf cf sf, feedF s c false = (rf, cf, sf) := ⟨_, _, _, rfl⟩
      have hokf : sf.ok := by have := ok_feed (c := c) (v := false) hok; rw [hfe] at this; exact this
      rw [hfe] at hp hfd
      have Hp := Lib.hid hp
      have Hfd := Lib.hid hfd
      have Hokf := Lib.hid hokf
      clear hcr hc hdr hp hfd hfe hokf hok h4
      go_wp2_with fail
      refine Hp.out.mono ?_
      rintro e w5 ⟨rfl, h5⟩
      obtain ⟨q0, q1, q2, q3, q4, q5⟩ := ccells h5.p1
      obtain ⟨t0, t1, t2, t3, t4, t5⟩ := cfrozen h5.p1
      have h6 := Owns.cset h5.p1 cf
      have H6 := Lib.hid h6
      clear h5 h6 Hp H4
      go_wp2_with fail
      go_roundg (gk - 1)
      case measure => omega
      case rel => exact ⟨i + 1, sf, rf, cf, by omega, by go_num, rfl, Hokf.out, Hfd.out, H6.out⟩
    · obtain rfl : i = l.length := by omega
      rw [List.drop_eq_nil_of_le (Nat.le_refl _), lastF] at hfd
      cases hfd
      obtain ⟨q0, q1, q2, q3, q4, q5⟩ := ccells H4.out
      obtain ⟨n, hn⟩ : ∃ n : Nat, n = min (min A 9999 * min B 9999) 9999 := ⟨_, rfl⟩
      have hcm := Hcm.out
      rw [← hn] at hcm
      have hm : min A 9999 * min B 9999 ≤ 9999 * 9999 := Nat.mul_le_mul (Nat.min_le_right _ _) (Nat.min_le_right _ _)
      have hmul : IntKind.i64.wrap (min (A : Int) 9999 * min (B : Int) 9999) = min (A : Int) 9999 * min (B : Int) 9999 := by
        rw [IntKind.wrap_i64]
        rw [show min (A : Int) 9999 = ((min A 9999 : Nat) : Int) by omega, show min (B : Int) 9999 = ((min B 9999 : Nat) : Int) by omega, ← Int.natCast_mul]
        omega
      have hmn : min (min (A : Int) 9999 * min (B : Int) 9999) 9999 = n := by
        rw [hn, show min (A : Int) 9999 = ((min A 9999 : Nat) : Int) by omega, show min (B : Int) 9999 = ((min B 9999 : Nat) : Int) by omega, ← Int.natCast_mul]
        omega
      have hcm2 := hcm
      subst hcm2
      have heq : ∀ w, (Op.equalIn 10000 33 (.agg #[.int .u8 0, .int .i64 n, .string ⟨#[100]⟩, .string ⟨#[119]⟩, .int .u8 0, .string ⟨#[]⟩]) (.agg #[.int .u8 0, .int .i64 n, .string ⟨#[100]⟩, .string ⟨#[119]⟩, .int .u8 0, .string ⟨#[]⟩])).run Try.prog w = .ok true w := fun w => eqin_cmd ⟨0, n, ⟨#[100]⟩, ⟨#[119]⟩, 0, ⟨#[]⟩⟩ w
      clear h4 hok hcm hm hn Hcm
      go_wp2_with fail
      go_ret
      exact ⟨rfl, H4.out.below⟩
end Go.Proofs.Ythcamokblkjkkaa
