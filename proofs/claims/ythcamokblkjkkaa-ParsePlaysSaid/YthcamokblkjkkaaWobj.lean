/- The law ParseObjects on values that read. -/
import Derived.Test.YthcamokblkjkkaaPU
import Derived.Test.YthcamokblkjkkaaRowByte
import Derived.Test.YthcamokblkjkkaaRead
namespace Go.Proofs.Ythcamokblkjkkaa
open Go Go.RowKit Go.Fol
attribute [local go_sem ↓] Go.wp_at_zero Go.wp_at_succ
set_option linter.unusedVariables false
set_option linter.unusedSimpArgs false
theorem conv_cap (a cap : Nat) (c : Int) (W : World) (h0 : 0 ≤ c) (hc : c ≤ 255) (h : W.cell? ⟨a, 0, none⟩ = some (.int .u8 c)) :
    (convert 22 9 (.slice (some ⟨a, 0, none⟩) 1 cap)).run Try.prog W = .ok (.string (str1 c)) W := by
  have := run_convert_bytes_back (P := Try.prog) W 22 9 5 ⟨a, 0, none⟩ cap [UInt8.ofNat c.toNat] Try.underlying22 Try.underlying5 Try.underlying9 (fun j hj => by
    simp at hj
    subst hj
    rw [Addr.add_lit, Nat.zero_add, h]
    simp
    omega)
  exact this
theorem fedL_last (v : Bool) (s : PSt) (c : Int) (a : Int × Cm) : fedL v s [c] a = ((feedF s c v).1, (feedF s c v).2.1) := by simp [fedL]
theorem fedL_go (v : Bool) (s : PSt) (c d : Int) (l : List Int) (a : Int × Cm) (h : (feedF s c v).1 = 0) : fedL v s (c :: d :: l) a = fedL v (feedF s c v).2.2 (d :: l) ((feedF s c v).1, (feedF s c v).2.1) := by
  rw [fedL, if_neg (by simp [h])]
theorem objF_eq (s : PSt) (c : Int) : objF s c = if objB c = 0 then (2, s) else (1, { s with arg := objB c }) := by
  unfold objF objB
  by_cases h1 : (c == 119 || c == 87 || c == 112 || c == 115 || c == 34 || c == 39 || c == 96) = true
  · have h0 : c ≠ 0 := by intro e; subst e; simp at h1
    simp only [h1, if_true, h0, if_false]
  · by_cases h2 : (c == 40 || c == 41 || c == 98) = true
    · simp [h1, h2]
    · by_cases h3 : (c == 91 || c == 93) = true
      · simp [h1, h2, h3]
      · by_cases h4 : (c == 123 || c == 125 || c == 66) = true
        · simp [h1, h2, h3, h4]
        · simp [h1, h2, h3, h4]
theorem feed_obj {s : PSt} (c : Int) (v : Bool) (ho : s.opn = true) (hs : s.state = 5) (hc : s.aany = false) (hb : s.bany = false) (hbn : s.bn = 0) (hreg : s.reg = 0) (htx : s.text = ⟨#[]⟩) :
    ((feedF s c v).1, (feedF s c v).2.1) = if objB c = 0 then (2, czero) else (1, ⟨0, 0, s.op, s.name, objB c, ⟨#[]⟩⟩) := by
  have e : fstart s v = { s with first := false } := by rw [fstart, if_pos ho]
  unfold feedF
  rw [e]
  by_cases h27 : c = 27
  · subst h27
    have h2 : stepF { s with first := false } 27 = (2, { s with first := false }) := by
      rw [stepF, if_pos rfl]
      simp
    rw [h2]
    rfl
  · have h2 : stepF { s with first := false } c = objF { s with first := false } c := by
      rw [stepF, if_neg h27]
      simp [hs]
    rw [h2]
    rw [objF_eq]
    have h3 : ¬ objB 27 = 1 := by decide
    by_cases h0 : objB c = 0
    · rw [if_pos h0, if_pos h0]
      rfl
    · rw [if_neg h0, if_neg h0]
      simp [cmOf, countF, hc, hb, hbn, hreg, htx]
/-- What an object's keys come to. -/
theorem objects_plain (visual : Bool) (o n c : Int) (ho : o = 100 ∨ o = 99 ∨ o = 121 ∨ o = 60 ∨ o = 62) (hn : n = 105 ∨ n = 97) :
    fedL visual pzero (if visual then [n, c] else [o, n, c]) (0, czero) = if objB c = 0 then (2, czero) else (1, ⟨0, 0, if visual then ⟨#[]⟩ else str1 o, str1 n, objB c, ⟨#[]⟩⟩) := by
  cases visual with
  | true =>
    rcases hn with rfl | rfl
    all_goals
      rw [if_pos rfl, fedL_go _ _ _ _ _ _ rfl, fedL_last]
      exact feed_obj c true rfl rfl rfl rfl rfl rfl rfl
  | false =>
    rcases hn with rfl | rfl <;> rcases ho with rfl | rfl | rfl | rfl | rfl
    all_goals
      rw [if_neg (by simp), fedL_go _ _ _ _ _ _ rfl, fedL_go _ _ _ _ _ _ rfl, fedL_last]
      exact feed_obj c false rfl rfl rfl rfl rfl rfl rfl
set_option maxHeartbeats 4000000 in
set_option maxRecDepth 100000 in
theorem parseObjects_walk (w : World) (v0 v1 v2 v3 : Value) (a0 : Arg Try.prog w 5 v0) (a1 : Arg Try.prog w 4 v1) (a2 : Arg Try.prog w 4 v2) (a3 : Arg Try.prog w 5 v3) :
    Calls Try.prog 8 #[v0, v1, v2, v3] w fun e w' => e = .returned (.bool true) ∧ Below w.heap.size w w' := by
  obtain ⟨c, rfl, hc⟩ := arg_int Try.underlying5 a0
  obtain ⟨around, rfl⟩ := arg_bool Try.underlying4 a1
  obtain ⟨visual, rfl⟩ := arg_bool Try.underlying4 a2
  obtain ⟨op, rfl, hop⟩ := arg_int Try.underlying5 a3
  have hc := wf_u8 hc
  have hop := wf_u8 hop
  have hc0 : 0 ≤ c := hc.1
  have hc1 : c ≤ 255 := hc.2
  have ho0 : 0 ≤ op := hop.1
  clear a0 a1 a2 a3
  go_enter Try.func8, Try.ntmps8
  go_wp2_with fail
  refine (known_true (Owns.start w)).mono ?_
  rintro e w1 ⟨rfl, h1⟩
  have h2 := h1.alloc #[.int .u8 105, .int .u8 c] 5
  obtain ⟨W2, hW2⟩ : ∃ W2, w1.alloc (.cells #[.int .u8 105, .int .u8 c] 5) = W2 := ⟨_, rfl⟩
  obtain ⟨K, hK⟩ : ∃ K, K = w1.heap.size := ⟨_, rfl⟩
  rw [hW2, ← hK] at h2
  have H2 := Lib.hid h2
  have HW2 := Lib.hid hW2
  have HK := Lib.hid hK
  clear h1 h2 hW2 hK
  go_upto_region 4 with (fail)
  rw [HW2.out, ← HK.out]
  clear HW2 HK
  go_upto_if 18 with (fail)
  go_cut [] (fun wx => ∃ n : Int, (n = 105 ∨ n = 97) ∧ Owns w wx [Asrt.obj K (.cells #[.int .u8 n, .int .u8 c] 5 (0, 0))])
  case first =>
    have k0 := H2.out.cell (j := 0) rfl
    have f0 := H2.out.frozen 0
    cases around with
    | true =>
      go_wp2_with fail
      go_meet
      exact ⟨97, .inr rfl, H2.out.set 0 (.int .u8 97)⟩
    | false =>
      go_wp2_with fail
      go_meet
      exact ⟨105, .inl rfl, H2.out⟩
  case rest =>
  obtain ⟨n, hn, h3⟩ := hcut
  have hn0 : 0 ≤ n := by omega
  have hn1 : n ≤ 255 := by omega
  have hcn := fun a W h => conv_cap a 2 n W hn0 hn1 h
  have k0 : wc.cell? ⟨K, 0, none⟩ = some (.int .u8 n) := h3.cell (j := 0) rfl
  have h4 := h3.alloc #[.int .u8 0, .int .i64 0, .string ⟨#[]⟩, .string (str1 n), .int .u8 0, .string ⟨#[]⟩] 33
  obtain ⟨W4, hW4⟩ : ∃ W4, wc.alloc (.cells #[.int .u8 0, .int .i64 0, .string ⟨#[]⟩, .string (str1 n), .int .u8 0, .string ⟨#[]⟩] 33) = W4 := ⟨_, rfl⟩
  obtain ⟨D, hD⟩ : ∃ D, D = wc.heap.size := ⟨_, rfl⟩
  rw [hW4, ← hD] at h4
  have H4 := Lib.hid h4
  have HW4 := Lib.hid hW4
  have HD := Lib.hid hD
  have Hn := Lib.hid hn
  clear h3 h4 hW4 hD hn H2
  go_upto_region 7 with (fail)
  rw [HW4.out, ← HD.out]
  clear HW4 HD k0 hcn
  go_upto_if 26 with (fail)
  go_cut [9, 11] (fun kv _ wx => ∃ o : Int, (o = 100 ∨ o = 99 ∨ o = 121 ∨ o = 60 ∨ o = 62) ∧ Owns w wx [cobj D ⟨0, 0, if visual then ⟨#[]⟩ else str1 o, str1 n, 0, ⟨#[]⟩⟩, bsrc kv (if visual then [n, c] else [o, n, c])])
  case first =>
    cases visual with
    | true =>
      go_wp2_with fail
      go_meet
      refine ⟨100, .inl rfl, ?_⟩
      have h := ((H4.out.p1.rowOf (k := 1) 2 2 (Nat.le_refl _) (by decide) rfl).srcOfRow (by decide)).p1
      exact h
    | false =>
      have hap : ∀ o : Int, ∃ v' w', (∀ ty, (Builtin.append_ #[22, 22] ty #[.slice (some ⟨W4.heap.size, 0, none⟩) 1 1, .slice (some ⟨K, 0, none⟩) 2 2]).run Try.prog (W4.alloc (.cells #[.int .u8 o] 5)) = .ok v' w') ∧ Owns w w' [row_byte v' 3 (kints .u8 [o, n, c]), cobj D ⟨0, 0, ⟨#[]⟩, str1 n, 0, ⟨#[]⟩⟩, Asrt.obj K (.cells #[.int .u8 n, .int .u8 c] 5 (0, 0))] := fun o =>
        app_byte (n := 1) (m := 2) (xs := [.int .u8 o]) (vs := [.int .u8 n, .int .u8 c]) ((H4.out.alloc #[.int .u8 o] 5).rowOf (k := 1) 1 1 (Nat.le_refl _) (by decide) rfl) (Reads.obj (b := K) (k := 1) (n := 2) (t := 5) (f := (0, 0)) (cs := #[.int .u8 n, .int .u8 c]) (by simp) (by decide) (by decide) (by simp)) (by simp [Value.oneCell']) (by decide) (by decide)
      rcases (show op % 5 = 0 ∨ op % 5 = 1 ∨ op % 5 = 2 ∨ op % 5 = 3 ∨ op % 5 = 4 by omega) with h | h | h | h | h
      · obtain ⟨kv, w5, hr, h5⟩ := hap 100
        have hcv := fun a W h => conv_byte a 100 W (by decide) (by decide) h
        have hnz : ((({ data := #[100, 99, 121, 60, 62] } : ByteArray)[0]'(by decide)).toNat : Int) = 100 := rfl
        have h6 := (h5.alloc #[.int .u8 100] 5).ord [2]
        have k2 := h6.cell (j := 2) rfl
        have f2 := h6.frozen 2
        have H7 := Lib.hid (h6.set 2 (.string (str1 100)))
        clear h5 h6 hap
        go_wp2_with (at_builtin; refine Lib.wpList_append_run _ rfl _ _ _ _ rfl _ _ rfl rfl _ _ (hr _) ?_)
        go_meet
        exact ⟨100, .inl rfl, Owns.left (R := [_, _]) (R' := [_, _]) ((H7.out.p2.srcOfRow (by decide)).p1)⟩
      · obtain ⟨kv, w5, hr, h5⟩ := hap 99
        have hcv := fun a W h => conv_byte a 99 W (by decide) (by decide) h
        have hnz : ((({ data := #[100, 99, 121, 60, 62] } : ByteArray)[1]'(by decide)).toNat : Int) = 99 := rfl
        have h6 := (h5.alloc #[.int .u8 99] 5).ord [2]
        have k2 := h6.cell (j := 2) rfl
        have f2 := h6.frozen 2
        have H7 := Lib.hid (h6.set 2 (.string (str1 99)))
        clear h5 h6 hap
        go_wp2_with (at_builtin; refine Lib.wpList_append_run _ rfl _ _ _ _ rfl _ _ rfl rfl _ _ (hr _) ?_)
        go_meet
        exact ⟨99, .inr (.inl rfl), Owns.left (R := [_, _]) (R' := [_, _]) ((H7.out.p2.srcOfRow (by decide)).p1)⟩
      · obtain ⟨kv, w5, hr, h5⟩ := hap 121
        have hcv := fun a W h => conv_byte a 121 W (by decide) (by decide) h
        have hnz : ((({ data := #[100, 99, 121, 60, 62] } : ByteArray)[2]'(by decide)).toNat : Int) = 121 := rfl
        have h6 := (h5.alloc #[.int .u8 121] 5).ord [2]
        have k2 := h6.cell (j := 2) rfl
        have f2 := h6.frozen 2
        have H7 := Lib.hid (h6.set 2 (.string (str1 121)))
        clear h5 h6 hap
        go_wp2_with (at_builtin; refine Lib.wpList_append_run _ rfl _ _ _ _ rfl _ _ rfl rfl _ _ (hr _) ?_)
        go_meet
        exact ⟨121, .inr (.inr (.inl rfl)), Owns.left (R := [_, _]) (R' := [_, _]) ((H7.out.p2.srcOfRow (by decide)).p1)⟩
      · obtain ⟨kv, w5, hr, h5⟩ := hap 60
        have hcv := fun a W h => conv_byte a 60 W (by decide) (by decide) h
        have hnz : ((({ data := #[100, 99, 121, 60, 62] } : ByteArray)[3]'(by decide)).toNat : Int) = 60 := rfl
        have h6 := (h5.alloc #[.int .u8 60] 5).ord [2]
        have k2 := h6.cell (j := 2) rfl
        have f2 := h6.frozen 2
        have H7 := Lib.hid (h6.set 2 (.string (str1 60)))
        clear h5 h6 hap
        go_wp2_with (at_builtin; refine Lib.wpList_append_run _ rfl _ _ _ _ rfl _ _ rfl rfl _ _ (hr _) ?_)
        go_meet
        exact ⟨60, .inr (.inr (.inr (.inl rfl))), Owns.left (R := [_, _]) (R' := [_, _]) ((H7.out.p2.srcOfRow (by decide)).p1)⟩
      · obtain ⟨kv, w5, hr, h5⟩ := hap 62
        have hcv := fun a W h => conv_byte a 62 W (by decide) (by decide) h
        have hnz : ((({ data := #[100, 99, 121, 60, 62] } : ByteArray)[4]'(by decide)).toNat : Int) = 62 := rfl
        have h6 := (h5.alloc #[.int .u8 62] 5).ord [2]
        have k2 := h6.cell (j := 2) rfl
        have f2 := h6.frozen 2
        have H7 := Lib.hid (h6.set 2 (.string (str1 62)))
        clear h5 h6 hap
        go_wp2_with (at_builtin; refine Lib.wpList_append_run _ rfl _ _ _ _ rfl _ _ rfl rfl _ _ (hr _) ?_)
        go_meet
        exact ⟨62, .inr (.inr (.inr (.inr rfl))), Owns.left (R := [_, _]) (R' := [_, _]) ((H7.out.p2.srcOfRow (by decide)).p1)⟩
  case rest =>
  obtain ⟨o, ho, h5⟩ := hcut
  have hpl := objects_plain visual o n c ho Hn.out
  obtain ⟨ks, hks⟩ : ∃ ks, ks = (if visual = true then [n, c] else [o, n, c]) := ⟨_, rfl⟩
  obtain ⟨op2, hop2⟩ : ∃ op2, op2 = (if visual = true then (⟨#[]⟩ : ByteArray) else str1 o) := ⟨_, rfl⟩
  rw [← hks, ← hop2] at h5 hpl
  have hkb : bytesB ks := by
    intro x hx
    rw [hks] at hx
    split at hx
    · simp at hx; rcases hx with rfl | rfl <;> omega
    · simp at hx; rcases hx with rfl | rfl | rfl <;> omega
  have hkl : ks.length ≤ 3 := by rw [hks]; split <;> simp
  obtain ⟨x, hx⟩ : ∃ x, x = objB c := ⟨_, rfl⟩
  rw [← hx] at hpl
  have HX := Lib.hid hx
  have HPL := Lib.hid hpl
  have HKB := Lib.hid hkb
  have H5 := Lib.hid h5
  have k4 := h5.cell (j := 4) rfl
  have f4 := h5.frozen 4
  clear h5 hpl hks hop2 hkb hx ho H4 Hn
  by_cases h0 : x = 0
  · have hx0 : 0 = objB c := by rw [← h0]; exact HX.out
    have b119 : (c == 119) = false := by rw [beq_eq_false_iff_ne]; intro e; rw [e] at hx0; exact absurd hx0 (by decide)
    have b87 : (c == 87) = false := by rw [beq_eq_false_iff_ne]; intro e; rw [e] at hx0; exact absurd hx0 (by decide)
    have b112 : (c == 112) = false := by rw [beq_eq_false_iff_ne]; intro e; rw [e] at hx0; exact absurd hx0 (by decide)
    have b115 : (c == 115) = false := by rw [beq_eq_false_iff_ne]; intro e; rw [e] at hx0; exact absurd hx0 (by decide)
    have b34 : (c == 34) = false := by rw [beq_eq_false_iff_ne]; intro e; rw [e] at hx0; exact absurd hx0 (by decide)
    have b39 : (c == 39) = false := by rw [beq_eq_false_iff_ne]; intro e; rw [e] at hx0; exact absurd hx0 (by decide)
    have b96 : (c == 96) = false := by rw [beq_eq_false_iff_ne]; intro e; rw [e] at hx0; exact absurd hx0 (by decide)
    have b40 : (c == 40) = false := by rw [beq_eq_false_iff_ne]; intro e; rw [e] at hx0; exact absurd hx0 (by decide)
    have b41 : (c == 41) = false := by rw [beq_eq_false_iff_ne]; intro e; rw [e] at hx0; exact absurd hx0 (by decide)
    have b98 : (c == 98) = false := by rw [beq_eq_false_iff_ne]; intro e; rw [e] at hx0; exact absurd hx0 (by decide)
    have b91 : (c == 91) = false := by rw [beq_eq_false_iff_ne]; intro e; rw [e] at hx0; exact absurd hx0 (by decide)
    have b93 : (c == 93) = false := by rw [beq_eq_false_iff_ne]; intro e; rw [e] at hx0; exact absurd hx0 (by decide)
    have b123 : (c == 123) = false := by rw [beq_eq_false_iff_ne]; intro e; rw [e] at hx0; exact absurd hx0 (by decide)
    have b125 : (c == 125) = false := by rw [beq_eq_false_iff_ne]; intro e; rw [e] at hx0; exact absurd hx0 (by decide)
    have b66 : (c == 66) = false := by rw [beq_eq_false_iff_ne]; intro e; rw [e] at hx0; exact absurd hx0 (by decide)
    have hpl := HPL.out
    rw [if_pos h0] at hpl
    have HF := Lib.hid (pfed (k := u9) visual HKB.out (by omega) H5.out (Reads.src (by simp)) hpl)
    clear h0 hx0 hpl
    go_wp2_with fail
    refine HF.out.mono ?_
    rintro e w8 ⟨rfl, h8⟩
    have heq : ∀ w, (Op.equalIn 10000 33 (.agg #[.int .u8 0, .int .i64 0, .string ⟨#[]⟩, .string ⟨#[]⟩, .int .u8 0, .string ⟨#[]⟩]) (.agg #[.int .u8 0, .int .i64 0, .string ⟨#[]⟩, .string ⟨#[]⟩, .int .u8 0, .string ⟨#[]⟩])).run Try.prog w = .ok true w := fun w => eqin_cmd czero w
    rw [show czero.cells = #[.int .u8 0, .int .i64 0, .string ⟨#[]⟩, .string ⟨#[]⟩, .int .u8 0, .string ⟨#[]⟩] from rfl]
    have k4 : w8.cell? ⟨D, 4, none⟩ = some (.int .u8 0) := h8.cell (j := 4) rfl
    have k4' := cell_alloc k4 (.cells #[.int .u8 0, .int .i64 0, .string ⟨#[]⟩, .string ⟨#[]⟩, .int .u8 0, .string ⟨#[]⟩] 33)
    have H8 := Lib.hid h8
    clear h8 HF
    go_wp2_with fail
    go_ret
    exact ⟨rfl, (H8.out.alloc0 _).below⟩
  · have ex : (x == 0) = false := by rw [beq_eq_false_iff_ne]; exact h0
    have hpl := HPL.out
    rw [if_neg h0] at hpl
    have HPL2 := Lib.hid hpl
    have Hx0 := Lib.hid h0
    clear hpl h0
    go_wp2_with fail
    all_goals try exact tf (by assumption) (by assumption)
    all_goals
      have hx := HX.out
      simp only [objB, *, Bool.true_or, Bool.or_true, Bool.false_or, Bool.or_self, if_true, if_false, Bool.false_eq_true] at hx
    all_goals first | exact absurd hx Hx0.out | skip
    all_goals
      rw [← hx]
      have h6 : Owns w (wc.setCell ⟨D, 4, none⟩ (.int .u8 x)) [cobj D ⟨0, 0, op2, str1 n, x, ⟨#[]⟩⟩, bsrc u9 ks] := H5.out.set 4 (.int .u8 x)
      have HF := Lib.hid (pfed (k := u9) visual HKB.out (by omega) h6 (Reads.src (by simp)) HPL2.out)
      clear h6 hx
      refine HF.out.mono ?_
      rintro e w8 ⟨rfl, h8⟩
      have heq : ∀ w, (Op.equalIn 10000 33 (.agg #[.int .u8 0, .int .i64 0, .string op2, .string (str1 n), .int .u8 x, .string ⟨#[]⟩]) (.agg #[.int .u8 0, .int .i64 0, .string op2, .string (str1 n), .int .u8 x, .string ⟨#[]⟩])).run Try.prog w = .ok true w := fun w => eqin_cmd ⟨0, 0, op2, str1 n, x, ⟨#[]⟩⟩ w
      have m0 := cell_alloc (h8.cell (j := 0) rfl) (.cells #[.int .u8 0, .int .i64 0, .string op2, .string (str1 n), .int .u8 x, .string ⟨#[]⟩] 33)
      have m1 := cell_alloc (h8.cell (j := 1) rfl) (.cells #[.int .u8 0, .int .i64 0, .string op2, .string (str1 n), .int .u8 x, .string ⟨#[]⟩] 33)
      have m2 := cell_alloc (h8.cell (j := 2) rfl) (.cells #[.int .u8 0, .int .i64 0, .string op2, .string (str1 n), .int .u8 x, .string ⟨#[]⟩] 33)
      have m3 := cell_alloc (h8.cell (j := 3) rfl) (.cells #[.int .u8 0, .int .i64 0, .string op2, .string (str1 n), .int .u8 x, .string ⟨#[]⟩] 33)
      have m4 := cell_alloc (h8.cell (j := 4) rfl) (.cells #[.int .u8 0, .int .i64 0, .string op2, .string (str1 n), .int .u8 x, .string ⟨#[]⟩] 33)
      have m5 := cell_alloc (h8.cell (j := 5) rfl) (.cells #[.int .u8 0, .int .i64 0, .string op2, .string (str1 n), .int .u8 x, .string ⟨#[]⟩] 33)
      have H8 := Lib.hid h8
      clear h8 HF
      go_wp2_with fail
      go_ret
      exact ⟨rfl, (H8.out.alloc0 _).below⟩
end Go.Proofs.Ythcamokblkjkkaa
