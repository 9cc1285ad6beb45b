/- jumps: the document's list of jumps: Older, Newer, where they lead. -/
import Derived.Test.YtaekfmbfejgldaaJR
namespace Go.Proofs.Ytaekfmbfejgldaa
open Go Go.RowKit Go.Fol
attribute [local go_sem ↓] Go.wp_at_zero Go.wp_at_succ
attribute [local go_sem ↓] run_min2 run_max2
set_option linter.unusedVariables false
set_option linter.unusedSimpArgs false
section
variable {w0 w : World} {R : List Asrt}
set_option maxHeartbeats 1000000 in
/-- Newer steps. -/
theorem rnewer_in {r at_ : Nat} {L : List (Int × Int)} (n : Int) (H : Owns w0 w (Asrt.rj r L at_ :: R)) (hat : at_ ≤ L.length) (hl : L.length ≤ 16) (hn : 1 ≤ n) (hn2 : n < (L.length : Int) - at_) {b : Nat} (hb : (at_ : Int) + n = b) {q : Int × Int} (hq : L[b]? = some q) :
    Calls Try.prog 14 #[.pointer (some ⟨r, 0, none⟩), .int .i64 n] w (Ret (.tuple #[.agg #[.int .i64 q.1, .int .i64 q.2], .bool true]) w0 (Asrt.rj r L b :: R)) := by
  obtain ⟨v, h⟩ := rjE H
  obtain ⟨va, vc, rfl⟩ := h.p1.src.form
  have H2 := Lib.hid (h.alloc #[.int .i64 0, .int .i64 0] 29)
  have k0 : (w.alloc (.cells #[.int .i64 0, .int .i64 0] 29)).cell? ⟨r, 0, none⟩ = some (.slice va L.length vc) := H2.out.p1.cell (j := 0) rfl
  have k1 : (w.alloc (.cells #[.int .i64 0, .int .i64 0] 29)).cell? ⟨r, 1, none⟩ = some (.int .i64 at_) := H2.out.p1.cell (j := 1) rfl
  obtain ⟨W, hW⟩ : ∃ W, w.alloc (.cells #[.int .i64 0, .int .i64 0] 29) = W := ⟨_, rfl⟩
  rw [hW] at k0 k1 H2
  obtain ⟨B, hB⟩ : ∃ B, B = w.heap.size := ⟨_, rfl⟩
  rw [← hB] at H2
  have HW := Lib.hid hW
  have HB := Lib.hid hB
  have hsub : IntKind.i64.wrap ((L.length : Int) - (at_ : Int)) = (L.length : Int) - (at_ : Int) := by rw [IntKind.wrap_i64]; omega
  have hge : decide ((L.length : Int) - (at_ : Int) ≤ n) = false := by simp; omega
  have hd : decide (n < 1) = false := by simp; omega
  have hbm : b < L.length := by omega
  have Hb := Lib.hid hb
  have Hq := Lib.hid hq
  clear h H hW hB hb hq
  go_enter Try.func14, Try.ntmps14
  go_upto_region 1 with (fail)
  rw [HW.out, ← HB.out]
  clear HW HB
  go_quiet (fail)
  obtain ⟨w3, hw3⟩ : ∃ w3, W.drewN nq = w3 := ⟨_, rfl⟩
  have h3 := (H2.out.drewN nq).p1
  rw [hw3] at h3 ⊢
  have H3 := Lib.hid h3
  clear k0 k1 hw3
  have k0 : w3.cell? ⟨r, 0, none⟩ = some (.slice va L.length vc) := h3.cell (j := 0) rfl
  have k1 : w3.cell? ⟨r, 1, none⟩ = some (.int .i64 (at_ : Int)) := h3.cell (j := 1) rfl
  have f1 : w3.frozen? ⟨r, 1, none⟩ = false := h3.frozen 1
  have hab : (at_ : Int) + n = (b : Int) := Hb.out
  obtain ⟨W4, hW4⟩ : ∃ W4, w3.setCell ⟨r, 1, none⟩ (.int .i64 b) = W4 := ⟨_, rfl⟩
  have h4 : Owns w0 W4 (robj r (.slice va L.length vc) b :: Asrt.obj B (.cells #[.int .i64 0, .int .i64 0] 29 (0, 0)) :: possrc (.slice va L.length vc) L :: R) := by
    rw [← hW4]
    exact h3.set 1 (.int .i64 b)
  have HW4 := Lib.hid hW4
  have k0' : W4.cell? ⟨r, 0, none⟩ = some (.slice va L.length vc) := h4.cell (j := 0) rfl
  have k1' : W4.cell? ⟨r, 1, none⟩ = some (.int .i64 (b : Int)) := h4.cell (j := 1) rfl
  obtain ⟨sb, so, sc', e1, hsc, hce⟩ := poscells h4.p2 (by omega)
  cases e1
  obtain ⟨e0, e1⟩ := hce b q Hq.out
  have r0 : W4.cell? ⟨B, 0, none⟩ = some (.int .i64 0) := h4.p1.cell (j := 0) rfl
  have r1 : W4.cell? ⟨B, 1, none⟩ = some (.int .i64 0) := h4.p1.cell (j := 1) rfl
  have r2 : W4.frozen? ⟨B, 0, none⟩ = false := h4.p1.frozen 0
  have r3 : W4.frozen? ⟨B, 1, none⟩ = false := h4.p1.frozen 1
  have h5 := h4.p1.set 0 (.int .i64 q.1)
  have u0 : (W4.setCell ⟨B, 0, none⟩ (.int .i64 q.1)).cell? ⟨B, 0, none⟩ = some (.int .i64 q.1) := h5.cell (j := 0) rfl
  have h6 := h5.set 1 (.int .i64 q.2)
  have u1 : ((W4.setCell ⟨B, 0, none⟩ (.int .i64 q.1)).setCell ⟨B, 1, none⟩ (.int .i64 q.2)).cell? ⟨B, 1, none⟩ = some (.int .i64 q.2) := h6.cell (j := 1) rfl
  have H6 := Lib.hid h6.drew
  clear h3 h4 hce hW4 h5 h6
  go_wp2_with fail
  rw [HW4.out]
  clear k0 k1 f1 HW4
  go_still_tail 10, (by kernel_rfl)
  change wpList _ _ _ _ _ W4.drew
  go_wp2_with fail
  exact bodyPost_ret (v := .tuple #[.agg #[.int .i64 q.1, .int .i64 q.2], .bool true]) (by simp [results, Try.results14, go_sem, u0, u1]) rfl ⟨rfl, rjI (H6.out.drop)⟩
/-- Two equal places are told equal. -/
theorem eqin_pos (x y : Int) (w : World) : (Op.equalIn 10000 29 (.agg #[.int .i64 x, .int .i64 y]) (.agg #[.int .i64 x, .int .i64 y])).run Try.prog w = .ok true w := by
  rw [show (10000 : Nat) = 9998 + 1 + 1 from rfl, run_equalIn_agg (ht := by kernel_rfl) (hp := by kernel_rfl)]
  obtain ⟨a, b, hf, ha, hb, na, nb, oa, ob⟩ : ∃ a b : Field, (Try.prog.fieldsOf 29).toList = [a, b] ∧ a.type = 3 ∧ b.type = 3 ∧ (a.name == "_") = false ∧ (b.name == "_") = false ∧ a.offset = 0 ∧ b.offset = 1 := ⟨(Try.prog.fieldsOf 29)[0]!, (Try.prog.fieldsOf 29)[1]!, by kernel_rfl, by kernel_rfl, by kernel_rfl, by kernel_rfl, by kernel_rfl, by kernel_rfl, by kernel_rfl⟩
  rw [hf]
  generalize (9998 : Nat) = d
  simp only [beq_eq_false_iff_ne, ne_eq] at na nb
  simp [Op.eqFields, go_sem, ha, hb, na, nb, oa, ob]
set_option maxHeartbeats 1000000 in
theorem places_true {a b : Value} {L : List (Int × Int)} (H : Owns w0 w R) (hA : Reads w0 R 2 a L.length (poss L)) (hB : Reads w0 R 2 b L.length (poss L)) :
    Calls Try.prog 17 #[a, b] w (Ret (.bool true) w0 R) := by
  have hn63 := (hA w H).n63
  obtain ⟨aa, ac, rfl⟩ := (hA w H).form
  obtain ⟨ba, bc, rfl⟩ := (hB w H).form
  have HH := Lib.hid H
  have HA := Lib.hid hA
  have HB := Lib.hid hB
  have heq := fun x y w => eqin_pos x y w
  clear H hA hB
  go_enter Try.func17, Try.ntmps17
  go_wp2_with fail
  go_loopw [5] (fun q wr => ∃ k : Nat, k ≤ L.length ∧ q = .int .i64 k ∧ Owns w0 wr R) (fun q _ => L.length - (intOf q).toNat)
  case atStart => exact ⟨0, Nat.zero_le _, rfl, HH.out⟩
  case round =>
    obtain ⟨k, hk, rfl, h2⟩ := hrel
    have H2 := Lib.hid h2
    clear h2
    by_cases hlt : k < L.length
    · obtain ⟨q, hq⟩ : ∃ q, L[k]? = some q := ⟨_, List.getElem?_eq_getElem hlt⟩
      obtain ⟨xb, xo, xc, e1, hxc, _, hxe⟩ := (HA.out _ H2.out).cells (by omega) (by decide)
      obtain ⟨yb, yo, yc, e2, hyc, _, hye⟩ := (HB.out _ H2.out).cells (by omega) (by decide)
      cases e1
      cases e2
      have x0 := hxe _ _ (poss_get hq).1
      have x1 : wr.cell? ⟨xb, xo + k * 2 + 1, none⟩ = _ := hxe _ _ (poss_get hq).2
      have y0 := hye _ _ (poss_get hq).1
      have y1 : wr.cell? ⟨yb, yo + k * 2 + 1, none⟩ = _ := hye _ _ (poss_get hq).2
      have heq := fun w => heq q.1 q.2 w
      clear hxe hye hq
      go_wp2_with fail
      go_quiet (fail)
      go_wp2_with fail
      go_roundw
      case rel => exact ⟨k + 1, by omega, by go_num, H2.out.drewN _⟩
      case measure => simp [intOf]; omega
    · obtain rfl : k = L.length := by omega
      go_wp2_with fail
      go_ret
      exact ⟨rfl, H2.out⟩
set_option maxHeartbeats 1000000 in
/-- Older, from within. -/
theorem rolder_mid {r at_ : Nat} {L : List (Int × Int)} (line col n : Int) (H : Owns w0 w (Asrt.rj r L at_ :: R)) (hat : at_ < L.length) (hl : L.length ≤ 16) (hn : 1 ≤ n) (hn2 : n ≤ at_) {b : Nat} (hb : (at_ : Int) - n = b) {q : Int × Int} (hq : L[b]? = some q) :
    Calls Try.prog 13 #[.pointer (some ⟨r, 0, none⟩), .agg #[.int .i64 line, .int .i64 col], .int .i64 n] w (Ret (.tuple #[.agg #[.int .i64 q.1, .int .i64 q.2], .bool true]) w0 (Asrt.rj r L b :: R)) := by
  obtain ⟨v, h⟩ := rjE H
  obtain ⟨va, vc, rfl⟩ := h.p1.src.form
  obtain ⟨W, hW⟩ : ∃ W, (w.alloc (.cells #[.int .i64 line, .int .i64 col] 29)).alloc (.cells #[.int .i64 0, .int .i64 0] 29) = W := ⟨_, rfl⟩
  have H2 : Owns w0 W (Asrt.obj (w.heap.size + 1) (.cells #[.int .i64 0, .int .i64 0] 29 (0, 0)) :: Asrt.obj w.heap.size (.cells #[.int .i64 line, .int .i64 col] 29 (0, 0)) :: robj r (.slice va L.length vc) at_ :: possrc (.slice va L.length vc) L :: R) := by
    have := (h.alloc #[.int .i64 line, .int .i64 col] 29).alloc #[.int .i64 0, .int .i64 0] 29
    rw [World.size_alloc, hW] at this
    exact this
  obtain ⟨B, hB⟩ : ∃ B, B = w.heap.size + 1 := ⟨_, rfl⟩
  obtain ⟨B1, hB1⟩ : ∃ B, B = w.heap.size := ⟨_, rfl⟩
  rw [← hB, ← hB1] at H2
  have k0 : W.cell? ⟨r, 0, none⟩ = some (.slice va L.length vc) := H2.p2.cell (j := 0) rfl
  have k1 : W.cell? ⟨r, 1, none⟩ = some (.int .i64 (at_ : Int)) := H2.p2.cell (j := 1) rfl
  have HH := Lib.hid H2
  have HW := Lib.hid hW
  have HB := Lib.hid (And.intro hB hB1)
  have h1 : ¬ (n < 1) := by omega
  have h2 : ¬ ((at_ : Int) < n) := by omega
  have hne : ((at_ : Int) == (L.length : Int)) = false := by simp; omega
  have hbm : b < L.length := by omega
  have hmx : max ((at_ : Int) - n) 0 = (b : Int) := by omega
  have hb3 : (at_ : Int) - n = (b : Int) := hb
  have Hb := Lib.hid hb
  have Hq := Lib.hid hq
  clear H2 h H hW hB hB1 hb hq hat hb3
  go_enter Try.func13, Try.ntmps13
  go_upto_region 1 with (fail)
  rw [HW.out, ← HB.out.1, ← HB.out.2]
  clear HW HB
  go_wp2_with fail
  go_quiet (fail)
  obtain ⟨w3, hw3⟩ : ∃ w3, W.drewN nq = w3 := ⟨_, rfl⟩
  have h3 := (HH.out.drewN nq).p2
  rw [hw3] at h3 ⊢
  clear k0 k1 hw3
  have k0 : w3.cell? ⟨r, 0, none⟩ = some (.slice va L.length vc) := h3.cell (j := 0) rfl
  have k1 : w3.cell? ⟨r, 1, none⟩ = some (.int .i64 (at_ : Int)) := h3.cell (j := 1) rfl
  have f1 : w3.frozen? ⟨r, 1, none⟩ = false := h3.frozen 1
  obtain ⟨W4, hW4⟩ : ∃ W4, w3.setCell ⟨r, 1, none⟩ (.int .i64 b) = W4 := ⟨_, rfl⟩
  have h4 : Owns w0 W4 (robj r (.slice va L.length vc) b :: Asrt.obj B (.cells #[.int .i64 0, .int .i64 0] 29 (0, 0)) :: possrc (.slice va L.length vc) L :: R) := by
    rw [← hW4]
    exact (((h3.set 1 (.int .i64 b)).ord [2]).drop)
  have HW4 := Lib.hid hW4
  have k0' : W4.cell? ⟨r, 0, none⟩ = some (.slice va L.length vc) := h4.cell (j := 0) rfl
  have k1' : W4.cell? ⟨r, 1, none⟩ = some (.int .i64 (b : Int)) := h4.cell (j := 1) rfl
  obtain ⟨sb, so, sc', e1, hsc, hce⟩ := poscells h4.p2 (by omega)
  cases e1
  obtain ⟨e0, e1⟩ := hce b q Hq.out
  have r0 : W4.cell? ⟨B, 0, none⟩ = some (.int .i64 0) := h4.p1.cell (j := 0) rfl
  have r1 : W4.cell? ⟨B, 1, none⟩ = some (.int .i64 0) := h4.p1.cell (j := 1) rfl
  have r2 : W4.frozen? ⟨B, 0, none⟩ = false := h4.p1.frozen 0
  have r3 : W4.frozen? ⟨B, 1, none⟩ = false := h4.p1.frozen 1
  have h5 := h4.p1.set 0 (.int .i64 q.1)
  have u0 : (W4.setCell ⟨B, 0, none⟩ (.int .i64 q.1)).cell? ⟨B, 0, none⟩ = some (.int .i64 q.1) := h5.cell (j := 0) rfl
  have h6 := h5.set 1 (.int .i64 q.2)
  have u1 : ((W4.setCell ⟨B, 0, none⟩ (.int .i64 q.1)).setCell ⟨B, 1, none⟩ (.int .i64 q.2)).cell? ⟨B, 1, none⟩ = some (.int .i64 q.2) := h6.cell (j := 1) rfl
  have H6 := Lib.hid h6.drew
  clear h3 h4 hce hW4 h5 h6
  go_wp2_with fail
  rw [HW4.out]
  clear k0 k1 f1 HW4
  go_still_tail 10, (by kernel_rfl)
  change wpList _ _ _ _ _ W4.drew
  go_wp2_with fail
  exact bodyPost_ret (v := .tuple #[.agg #[.int .i64 q.1, .int .i64 q.2], .bool true]) (by simp [results, Try.results13, go_sem, u0, u1]) rfl ⟨rfl, rjI (H6.out.drop)⟩
set_option maxHeartbeats 1000000 in
/-- Older, from the end. -/
theorem rolder_end {r : Nat} {L : List (Int × Int)} (line col n : Int) (H : Owns w0 w (Asrt.rj r L L.length :: R)) (hl : L.length ≤ 16) (hn : 1 ≤ n) (hn2 : n ≤ L.length) {b : Nat} (hb : max (((pushL L (line, col)).length : Int) - 1 - n) 0 = b) {q : Int × Int} (hq : (pushL L (line, col))[b]? = some q) :
    Calls Try.prog 13 #[.pointer (some ⟨r, 0, none⟩), .agg #[.int .i64 line, .int .i64 col], .int .i64 n] w (Ret (.tuple #[.agg #[.int .i64 q.1, .int .i64 q.2], .bool true]) w0 (Asrt.rj r (pushL L (line, col)) b :: R)) := by
  obtain ⟨v, h⟩ := rjE H
  obtain ⟨va, vc, rfl⟩ := h.p1.src.form
  obtain ⟨W, hW⟩ : ∃ W, (w.alloc (.cells #[.int .i64 line, .int .i64 col] 29)).alloc (.cells #[.int .i64 0, .int .i64 0] 29) = W := ⟨_, rfl⟩
  have H2 : Owns w0 W (Asrt.obj (w.heap.size + 1) (.cells #[.int .i64 0, .int .i64 0] 29 (0, 0)) :: Asrt.obj w.heap.size (.cells #[.int .i64 line, .int .i64 col] 29 (0, 0)) :: robj r (.slice va L.length vc) L.length :: possrc (.slice va L.length vc) L :: R) := by
    have := (h.alloc #[.int .i64 line, .int .i64 col] 29).alloc #[.int .i64 0, .int .i64 0] 29
    rw [World.size_alloc, hW] at this
    exact this
  obtain ⟨B, hB⟩ : ∃ B, B = w.heap.size + 1 := ⟨_, rfl⟩
  obtain ⟨B1, hB1⟩ : ∃ B, B = w.heap.size := ⟨_, rfl⟩
  rw [← hB, ← hB1] at H2
  have k0 : W.cell? ⟨r, 0, none⟩ = some (.slice va L.length vc) := H2.p2.cell (j := 0) rfl
  have k1 : W.cell? ⟨r, 1, none⟩ = some (.int .i64 (L.length : Int)) := H2.p2.cell (j := 1) rfl
  have c0 : W.cell? ⟨B1, 0, none⟩ = some (.int .i64 line) := H2.p1.cell (j := 0) rfl
  have c1 : W.cell? ⟨B1, 1, none⟩ = some (.int .i64 col) := H2.p1.cell (j := 1) rfl
  have HH := Lib.hid H2
  have HW := Lib.hid hW
  have HB := Lib.hid (And.intro hB hB1)
  have h1 : ¬ (n < 1) := by omega
  have h2 : ¬ ((L.length : Int) < n) := by omega
  have hpl := pushL_len (L := L) (line, col)
  have hpl1 : 1 ≤ (pushL L (line, col)).length := by omega
  have hpl2 : (pushL L (line, col)).length ≤ 16 := by omega
  have Hb := Lib.hid hb
  have Hq := Lib.hid hq
  clear H2 h H hW hB hB1 hb hq hpl
  go_enter Try.func13, Try.ntmps13
  go_upto_region 1 with (fail)
  rw [HW.out, ← HB.out.1, ← HB.out.2]
  clear HW HB
  go_wp2_with fail
  go_quiet (fail)
  go_wp2_with fail
  refine (rpush line col (rjI ((HH.out.drewN nq).ord [2, 2])) hl).mono ?_
  rintro e w3 ⟨rfl, h3⟩
  clear k0 k1 c0 c1
  obtain ⟨v3, h3⟩ := rjE h3
  obtain ⟨L3, hL3⟩ : ∃ L3, L3 = pushL L (line, col) := ⟨_, rfl⟩
  obtain ⟨m, hm⟩ : ∃ m, m + 1 = L3.length := ⟨L3.length - 1, by rw [hL3]; omega⟩
  obtain ⟨va3, vc3, rfl⟩ := h3.p1.src.form
  rw [← hL3] at h3
  have k0 : w3.cell? ⟨r, 0, none⟩ = some (.slice va3 L3.length vc3) := h3.cell (j := 0) rfl
  have k1 : w3.cell? ⟨r, 1, none⟩ = some (.int .i64 ((m : Int) + 1)) := by
    have : w3.cell? ⟨r, 1, none⟩ = some (.int .i64 (L3.length : Int)) := h3.cell (j := 1) rfl
    rw [this, ← hm, Int.natCast_add, Int.natCast_one]
  have f1 : w3.frozen? ⟨r, 1, none⟩ = false := h3.frozen 1
  have hmx : max ((m : Int) - n) 0 = (b : Int) := by rw [← Hb.out, ← hL3]; congr 1; omega
  have hbm : b < L3.length := by omega
  have hl3 : L3.length ≤ 16 := by rw [hL3]; exact hpl2
  have hmb : m ≤ 15 := by omega
  obtain ⟨W4, hW4⟩ : ∃ W4, (w3.setCell ⟨r, 1, none⟩ (.int .i64 m)).setCell ⟨r, 1, none⟩ (.int .i64 b) = W4 := ⟨_, rfl⟩
  have h4 : Owns w0 W4 (robj r (.slice va3 L3.length vc3) b :: Asrt.obj B (.cells #[.int .i64 0, .int .i64 0] 29 (0, 0)) :: possrc (.slice va3 L3.length vc3) L3 :: R) := by
    rw [← hW4]
    exact ((((h3.set 1 (.int .i64 m)).set 1 (.int .i64 b)).ord [3]).drop).ord [0, 1]
  have HW4 := Lib.hid hW4
  have k0' : W4.cell? ⟨r, 0, none⟩ = some (.slice va3 L3.length vc3) := h4.cell (j := 0) rfl
  have k1' : W4.cell? ⟨r, 1, none⟩ = some (.int .i64 (b : Int)) := h4.cell (j := 1) rfl
  obtain ⟨sb, so, sc', e1, hsc, hce⟩ := poscells h4.p2 (by omega)
  cases e1
  obtain ⟨e0, e1⟩ := hce b q (hL3 ▸ Hq.out)
  have r0 : W4.cell? ⟨B, 0, none⟩ = some (.int .i64 0) := h4.p1.cell (j := 0) rfl
  have r1 : W4.cell? ⟨B, 1, none⟩ = some (.int .i64 0) := h4.p1.cell (j := 1) rfl
  have r2 : W4.frozen? ⟨B, 0, none⟩ = false := h4.p1.frozen 0
  have r3 : W4.frozen? ⟨B, 1, none⟩ = false := h4.p1.frozen 1
  have h5 := h4.p1.set 0 (.int .i64 q.1)
  have u0 : (W4.setCell ⟨B, 0, none⟩ (.int .i64 q.1)).cell? ⟨B, 0, none⟩ = some (.int .i64 q.1) := h5.cell (j := 0) rfl
  have h6 := h5.set 1 (.int .i64 q.2)
  have u1 : ((W4.setCell ⟨B, 0, none⟩ (.int .i64 q.1)).setCell ⟨B, 1, none⟩ (.int .i64 q.2)).cell? ⟨B, 1, none⟩ = some (.int .i64 q.2) := h6.cell (j := 1) rfl
  have H6 := Lib.hid h6.drew
  have HL3 := Lib.hid hL3
  clear h3 h4 hce hW4 h5 h6 hL3 hm
  go_wp2_with fail
  rw [HW4.out]
  clear k0 k1 f1 HW4
  go_still_tail 10, (by kernel_rfl)
  change wpList _ _ _ _ _ W4.drew
  go_wp2_with fail
  exact bodyPost_ret (v := .tuple #[.agg #[.int .i64 q.1, .int .i64 q.2], .bool true]) (by simp [results, Try.results13, go_sem, u0, u1]) rfl ⟨rfl, by rw [← HL3.out]; exact rjI (H6.out.drop)⟩
end
end Go.Proofs.Ytaekfmbfejgldaa
