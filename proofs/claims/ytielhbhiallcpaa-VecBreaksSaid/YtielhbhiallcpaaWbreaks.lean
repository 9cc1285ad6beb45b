/- The law VecBreaks on values that read. -/
import Derived.Test.YtielhbhiallcpaaHeld
import Derived.Test.YtielhbhiallcpaaBreak
import Derived.Test.YtielhbhiallcpaaKnown
import Derived.Test.YtielhbhiallcpaaAllw
namespace Go.Proofs.Ytielhbhiallcpaa
open Go Go.RowKit Go.Fol
attribute [local go_sem] Oper.semAt_some
attribute [local go_sem ↓] run_min2 run_max2
set_option linter.unusedVariables false
set_option linter.unusedSimpArgs false

set_option maxHeartbeats 4000000 in
set_option maxRecDepth 100000 in
theorem vecBreaks_walk (w : World) (v0 v1 : Value) (a0 : Arg Try.prog w 31 v0) (a1 : Arg Try.prog w 5 v1) :
    Calls Try.prog 5 #[v0, v1] w fun e w' => e = .returned (.bool true) ∧ Below w.heap.size w w' := by
  obtain ⟨l, hl, hlb, _⟩ := arg_ints Try.underlying31 Try.underlying3 (by kernel_rfl) (by kernel_rfl) a0
  obtain ⟨nn, rfl, hat⟩ := arg_int Try.underlying5 a1
  have hat : 0 ≤ nn ∧ nn ≤ 255 := by simpa [Lit.wf, IntKind.min, IntKind.max, IntKind.signed, IntKind.bits] using hat
  obtain ⟨n, hn⟩ : ∃ n, n = l.length := ⟨_, rfl⟩
  rw [← hn] at hl hlb
  obtain ⟨la, lc, rfl⟩ := hl.form
  have hl63 := hl.n63
  obtain ⟨m, hm⟩ : ∃ m : Nat, m = (nn % 20).toNat := ⟨_, rfl⟩
  have hm1 : nn.tmod 20 = (m : Int) := by rw [Int.tmod_eq_emod_of_nonneg hat.1]; omega
  have hm2 : m ≤ 19 := by omega
  have hm3 : wrap64 (m : Int) = m := by unfold wrap64; omega
  have Hl := Lib.hid hl
  have Hn := Lib.hid hn
  clear a0 a1 hl hn hm
  have hfn := fun (fn : Fn) (x y : Array Value) (w : World) => eql_func_nil fn x y w
  refine calls_of_wp_marks Try.func5 rfl ?_
  simp only [Try.ntmps5, List.size_toArray, List.length_cons, List.length_nil, Nat.reduceAdd, Nat.reduceSub, Array.replicate_succ, Array.replicate_zero, List.push_toArray, List.append_toArray, List.nil_append, List.cons_append]
  go_wp2_with fail
  refine (known_true w).mono ?_
  rintro e w0 ⟨rfl, hc0⟩
  have Hc0 := Lib.hid hc0
  have hbel : Below w.heap.size w w0 := hc0.below (Nat.le_refl _) (by simp)
  have Hbel := Lib.hid hbel
  clear hc0 hbel
  go_wp2_with fail
  all_goals first | (refine leaves_marks [] _ (by simp) (fun D' h => by simp at h) (fun w' hc hs => ?_); exact ⟨.bool true, by simp [results, Try.f5, go_sem], rfl, (Hc0.out.nil_trans hc).below (Nat.le_refl _) (by simp)⟩) | skip
  refine (new_int _ n (ints l) _ (Hl.out.keep Hc0.out (fun _ _ => by simp)) (ints_one _) (by omega)).mono ?_
  rintro e w1 ⟨pa, sa, rfl, hv, hc, hnew⟩
  have O1 := Lib.hid (Own.of_new Hc0.out hv hc hnew)
  clear hv hc hnew
  go_wp2_with fail
  refine (ranged_all_int pa sa n (ints l) _ O1.out.vec (ints_one l) (by omega)).mono ?_
  rintro e w2 ⟨b1, s1, rfl, hr1, hcA, hn1⟩
  have O2 := Lib.hid (O1.out.quiet hcA)
  have Hr1 := Lib.hid hr1
  have HcA := Lib.hid hcA
  have Hn1 := Lib.hid hn1
  clear hr1 hcA hn1
  go_wp2_with fail
  refine (ranged_back_int pa sa n (ints l) _ O2.out.vec (ints_one l) (by omega)).mono ?_
  rintro e w3 ⟨b2, s2, rfl, hr2, hcB, hn2⟩
  have O3 := Lib.hid (O2.out.quiet hcB)
  have Hr1' := Lib.hid (Hr1.out.keep hcB (by simp) (fun _ _ => by simp))
  have Hr2 := Lib.hid hr2
  have Hn2 := Lib.hid hn2
  clear hr2 hcB hn2 Hr1
  go_wp2_with fail
  obtain ⟨W4, hW4⟩ : ∃ W4, (w3.alloc (.cells #[.int .i64 ((m : Int) + 1)] 3)).alloc (.cells #[.int .i64 0] 3) = W4 := ⟨_, rfl⟩
  obtain ⟨B8, hB8⟩ : ∃ B, B = w3.heap.size := ⟨_, rfl⟩
  obtain ⟨B9, hB9⟩ : ∃ B, B = w3.heap.size + 1 := ⟨_, rfl⟩
  have hc4 : Chg [] w3 W4 := by rw [← hW4]; exact ((Chg.refl [] w3).alloc _).alloc _
  have hb8 : W4.heap[B8]? = some (.cells #[.int .i64 ((m : Int) + 1)] 3 (0, 0)) := by rw [← hW4, hB8]; exact (Below.heap_alloc _ _ _ (by simp)).trans (heap_alloc_new _ _)
  have hb9 : W4.heap[B9]? = some (.cells #[.int .i64 0] 3 (0, 0)) := by
    rw [← hW4, hB9]; have := heap_alloc_new (w3.alloc (.cells #[.int .i64 ((m : Int) + 1)] 3)) (.cells #[.int .i64 0] 3); rwa [World.size_alloc] at this
  rw [hW4, ← hB9, ← hB8]
  have h89 : B8 ≠ B9 := by omega
  have hr1 : VecAt W4 31 3 1 b1 s1 n (ints l) := Hr1'.out.keep hc4 (by simp) (fun _ _ => by simp)
  have hr2 : VecAt W4 31 3 1 b2 s2 n (ints l) := Hr2.out.keep hc4 (by simp) (fun _ _ => by simp)
  have ho4 : Fol.Own w W4 58 3 1 pa sa n (ints l) := O3.out.quiet hc4
  have hlt1 : B9 ∉ vfoot b1 s1 := fun hc => by have := Hr1'.out.foot_lt _ hc; omega
  have hlt2 : B9 ∉ vfoot b2 s2 := fun hc => by have := Hr2.out.foot_lt _ hc; omega
  have hlta : B9 ∉ vfoot pa sa := fun hc => by have := O3.out.vec.foot_lt _ hc; omega
  have hw9 : w.heap.size ≤ B9 := by have := O3.out.chg.size; omega
  have hw8 : w.heap.size ≤ B8 := by have := O3.out.chg.size; omega
  have hw4 : w.heap.size ≤ W4.heap.size := ho4.chg.size
  have Hr2' := Lib.hid hr2
  have Ho4 := Lib.hid ho4
  have Hlt1 := Lib.hid hlt1
  have Hlt2 := Lib.hid hlt2
  have Hlta := Lib.hid hlta
  have HB8 := Lib.hid hB8
  have HB9 := Lib.hid hB9
  have HW4 := Lib.hid hW4
  clear hr2 ho4 hlt1 hlt2 hlta hB8 hB9 hc4 hW4
  refine wp_range_break (gf := 36) (lb := #[.pointer (some ⟨b1, 0, none⟩)]) rfl (enters_fn Try.func36 (by kernel_rfl) rfl) (seq_all_int b1 s1 n (ints l) W4 hr1) (fun c hc => hr1.foot_lt c hc) (fun _ => rfl)
    (fun k W => k < m + 1 ∧ W.heap[B8]? = some (.cells #[.int .i64 ((m : Int) + 1)] 3 (0, 0)) ∧ W.heap[B9]? = some (.cells #[.int .i64 (k : Int)] 3 (0, 0)) ∧ VecAt W 31 3 1 b2 s2 n (ints l) ∧ Fol.Own w W 58 3 1 pa sa n (ints l))
    (fun W => W.heap[B8]? = some (.cells #[.int .i64 ((m : Int) + 1)] 3 (0, 0)) ∧ W.heap[B9]? = some (.cells #[.int .i64 ((min (m + 1) n : Nat) : Int)] 3 (0, 0)) ∧ VecAt W 31 3 1 b2 s2 n (ints l) ∧ Fol.Own w W 58 3 1 pa sa n (ints l))
    (fun k W W' ⟨h0, h1, h2, h3, h4⟩ q => ⟨h0, q.heap h1, q.heap h2, q.vec h3, q.own hw4 h4⟩) (fun W W' ⟨h1, h2, h3, h4⟩ q => ⟨q.heap h1, q.heap h2, q.vec h3, q.own hw4 h4⟩)
    ⟨by omega, hb8, hb9, Hr2'.out, Ho4.out⟩ (fun W ⟨h0, h1, h2, h3, h4⟩ => ⟨h1, by rw [Nat.min_eq_right (by omega)]; exact h2, h3, h4⟩) ?F ?assign ?body ?hend
  case assign =>
    intro l' k W K hk hK
    gi_wp2
    exact hK
  case body =>
    rintro l' k W hk ⟨h0, h1, h2, h3, h4⟩ hS
    have c8 := cell_of_heap h1 (j := 0) rfl
    have c9 := cell_of_heap h2 (j := 0) rfl
    have f9 := frozen_of_heap h2 0
    have hch : Chg [B9] W (W.setCell ⟨B9, 0, none⟩ (.int .i64 ((k : Int) + 1))) := (Chg.refl _ W).setCell (fun _ => by simp) _
    have g8 : (W.setCell ⟨B9, 0, none⟩ (.int .i64 ((k : Int) + 1))).cell? ⟨B8, 0, none⟩ = some (.int .i64 ((m : Int) + 1)) := hch.cell c8 (by simpa using h89)
    have hok : BodyOk (vfoot b1 s1) W (W.setCell ⟨B9, 0, none⟩ (.int .i64 ((k : Int) + 1))) := ⟨[B9], hch, fun j hj _ => by simp at hj; subst hj; exact ⟨_, _, _, h2⟩, fun c hc => ⟨hS c hc, fun hm => by simp at hm; subst hm; exact Hlt1.out hc⟩⟩
    have e1 := hch.heap h1 (by simpa using h89)
    have e2 : (W.setCell ⟨B9, 0, none⟩ (.int .i64 ((k : Int) + 1))).heap[B9]? = some (.cells #[.int .i64 ((k : Int) + 1)] 3 (0, 0)) := by
      have := heap_set_same h2 (j := 0) (.int .i64 ((k : Int) + 1))
      simpa using this
    have e3 := h3.keep' hch (fun c hc h => by simp at h; exact Hlt2.out (h ▸ hc))
    have e4 := h4.set hch hw9 Hlta.out
    have Hok := Lib.hid hok
    have E1 := Lib.hid e1
    have E2 := Lib.hid e2
    have E3 := Lib.hid e3
    have E4 := Lib.hid e4
    clear hok e1 e2 e3 e4 hch h1 h2 h3 h4 hS hb8 hb9 hr1
    by_cases hlt : k + 1 < m + 1
    · have hlt' : ¬ ((m : Int) + 1 ≤ (k : Int) + 1) := by omega
      gi_wp2
      exact ⟨Hok.out, E1.out, E2.out, E3.out, E4.out⟩
    · have hlt' : (m : Int) + 1 ≤ (k : Int) + 1 := by omega
      gi_wp2
      exact ⟨Hok.out, rfl, E1.out, by rw [show min (m + 1) n = k + 1 by omega, Int.natCast_succ]; exact E2.out, E3.out, E4.out⟩
  case hend =>
    rintro D W hD ⟨h1, h2, h3, h4⟩ hd
    obtain ⟨g, hg⟩ : ∃ g, g = min (m + 1) n := ⟨_, rfl⟩
    rw [← hg] at h2
    have c8 := cell_of_heap h1 (j := 0) rfl
    have c9 := cell_of_heap h2 (j := 0) rfl
    have H1 := Lib.hid h1
    have H2 := Lib.hid h2
    have H3 := Lib.hid h3
    have H4 := Lib.hid h4
    have Hd := Lib.hid hd
    clear h1 h2 h3 h4 hd hb8 hb9 hr1
    gi_wp2
    go_wp2_with fail
    obtain ⟨V, hV⟩ : ∃ V, W.alloc (.cells #[.int .i64 0] 3) = V := ⟨_, rfl⟩
    obtain ⟨B10, hB10⟩ : ∃ B, B = W.heap.size := ⟨_, rfl⟩
    have hcV : Chg [] W V := by rw [← hV]; exact (Chg.refl [] W).alloc _
    have hb10 : V.heap[B10]? = some (.cells #[.int .i64 0] 3 (0, 0)) := by rw [← hV, hB10]; exact heap_alloc_new _ _
    rw [hV, ← hB10]
    have h81 := hcV.heap H1.out (by simp)
    have h91 := hcV.heap H2.out (by simp)
    have hr2 := H3.out.keep hcV (by simp) (fun _ _ => by simp)
    have ho := H4.out.quiet hcV
    have hdV := hcV.heap Hd.out (by simp)
    have hDW : D < V.heap.size := heap_lt hdV
    have hD10 : D < B10 := by rw [hB10]; exact heap_lt Hd.out
    have hl8 : B8 < B10 := by rw [hB10]; exact heap_lt H1.out
    have hl9 : B9 < B10 := by rw [hB10]; exact heap_lt H2.out
    have hlt2' : B10 ∉ vfoot b2 s2 := fun hc => by have := H3.out.foot_lt _ hc; omega
    have hlta' : B10 ∉ vfoot pa sa := fun hc => by have := H4.out.vec.foot_lt _ hc; omega
    have hwV : w.heap.size ≤ V.heap.size := ho.chg.size
    have hw10 : w.heap.size ≤ B10 := by omega
    have Hlt2' := Lib.hid hlt2'
    have Hlta' := Lib.hid hlta'
    clear hlt2' hlta' hV hB10 hcV c8 c9 Hlt1 Hlt2 Hlta
    refine wp_range_break (gf := 37) (lb := #[.pointer (some ⟨b2, 0, none⟩)]) rfl (enters_fn Try.func37 (by kernel_rfl) rfl) (seq_back_int b2 s2 n (ints l) V hr2) (fun c hc => hr2.foot_lt c hc) (fun _ => rfl)
      (fun k W => k < m + 1 ∧ W.heap[B8]? = some (.cells #[.int .i64 ((m : Int) + 1)] 3 (0, 0)) ∧ W.heap[B9]? = some (.cells #[.int .i64 (g : Int)] 3 (0, 0)) ∧ W.heap[B10]? = some (.cells #[.int .i64 (k : Int)] 3 (0, 0)) ∧ W.heap[D]? = some (.deferred (some [])) ∧ Fol.Own w W 58 3 1 pa sa n (ints l))
      (fun W => W.heap[B8]? = some (.cells #[.int .i64 ((m : Int) + 1)] 3 (0, 0)) ∧ W.heap[B9]? = some (.cells #[.int .i64 (g : Int)] 3 (0, 0)) ∧ W.heap[B10]? = some (.cells #[.int .i64 (g : Int)] 3 (0, 0)) ∧ W.heap[D]? = some (.deferred (some [])) ∧ Fol.Own w W 58 3 1 pa sa n (ints l))
      (fun k W W' ⟨h0, h1, h2, h3, h4, h5⟩ q => ⟨h0, q.heap h1, q.heap h2, q.heap h3, q.low hDW h4, q.own hwV h5⟩) (fun W W' ⟨h1, h2, h3, h4, h5⟩ q => ⟨q.heap h1, q.heap h2, q.heap h3, q.low hDW h4, q.own hwV h5⟩)
      ⟨by omega, h81, h91, hb10, hdV, ho⟩ (fun W ⟨h0, h1, h2, h3, h4, h5⟩ => ⟨h1, h2, by rw [hg, Nat.min_eq_right (by omega)]; exact h3, h4, h5⟩) ?F2 ?assign2 ?body2 ?hend2
    case assign2 =>
      intro l' k W K hk hK
      gi_wp2
      exact hK
    case body2 =>
      rintro l' k W hk ⟨h0, h1, h2, h3, h4, h5⟩ hS
      have c8 := cell_of_heap h1 (j := 0) rfl
      have c10 := cell_of_heap h3 (j := 0) rfl
      have f10 := frozen_of_heap h3 0
      have hch : Chg [B10] W (W.setCell ⟨B10, 0, none⟩ (.int .i64 ((k : Int) + 1))) := (Chg.refl _ W).setCell (fun _ => by simp) _
      have g8 : (W.setCell ⟨B10, 0, none⟩ (.int .i64 ((k : Int) + 1))).cell? ⟨B8, 0, none⟩ = some (.int .i64 ((m : Int) + 1)) := hch.cell c8 (by simp; omega)
      have hok : BodyOk (vfoot b2 s2) W (W.setCell ⟨B10, 0, none⟩ (.int .i64 ((k : Int) + 1))) := ⟨[B10], hch, fun j hj _ => by simp at hj; subst hj; exact ⟨_, _, _, h3⟩, fun c hc => ⟨hS c hc, fun hm => by simp at hm; subst hm; exact Hlt2'.out hc⟩⟩
      have e1 := hch.heap h1 (by simp; omega)
      have e2 := hch.heap h2 (by simp; omega)
      have e3 : (W.setCell ⟨B10, 0, none⟩ (.int .i64 ((k : Int) + 1))).heap[B10]? = some (.cells #[.int .i64 ((k : Int) + 1)] 3 (0, 0)) := by
        have := heap_set_same h3 (j := 0) (.int .i64 ((k : Int) + 1))
        simpa using this
      have e4 := hch.heap h4 (by simp; omega)
      have e5 := h5.set hch hw10 Hlta'.out
      have Hok := Lib.hid hok
      have E1 := Lib.hid e1
      have E2 := Lib.hid e2
      have E3 := Lib.hid e3
      have E4 := Lib.hid e4
      have E5 := Lib.hid e5
      have hmx : ∀ (hge : ¬ (k + 1 < m + 1)), g = k + 1 := fun hge => by omega
      have Hmx := Lib.hid hmx
      clear hok e1 e2 e3 e4 e5 hch h1 h2 h3 h4 h5 hS hb10 hr2 h81 h91 hdV ho hg hmx
      by_cases hlt : k + 1 < m + 1
      · have hlt' : ¬ ((m : Int) + 1 ≤ (k : Int) + 1) := by omega
        gi_wp2
        exact ⟨Hok.out, E1.out, E2.out, E3.out, E4.out, E5.out⟩
      · have hlt' : (m : Int) + 1 ≤ (k : Int) + 1 := by omega
        have hgk := Hmx.out hlt
        subst hgk
        gi_wp2
        exact ⟨Hok.out, rfl, E1.out, by rw [Int.natCast_succ] at *; exact E2.out, by rw [Int.natCast_succ] at *; exact E3.out, E4.out, E5.out⟩
    case hend2 =>
      rintro D2 W2 hD2 ⟨h1, h2, h3, h4, h5⟩ hd2
      have c8 := cell_of_heap h1 (j := 0) rfl
      have c9 := cell_of_heap h2 (j := 0) rfl
      have c10 := cell_of_heap h3 (j := 0) rfl
      have H4 := Lib.hid h4
      have H5 := Lib.hid h5
      have Hd2 := Lib.hid hd2
      have hmg : min ((m : Int) + 1) (n : Int) = (g : Int) := by omega
      have hne : D2 ≠ D := by omega
      clear h1 h2 h3 h4 h5 hd2 hb10 hr2 h81 h91 hdV ho hg
      gi_wp2
      go_wp2_with fail
      refine (all_true pa sa (.slice la n lc) l W2 (Hn.out ▸ H5.out.vec) (Hn.out ▸ H5.out.src Hl.out) (by have := Hn.out; omega)).mono ?_
      rintro e W5 ⟨rfl, hc5⟩
      have O5 := Lib.hid (H5.out.quiet hc5)
      have Hc5 := Lib.hid hc5
      clear hc5
      go_wp2_with fail
      refine (all_true pa sa (.slice la n lc) l W5 (Hn.out ▸ O5.out.vec) (Hn.out ▸ O5.out.src Hl.out) (by have := Hn.out; omega)).mono ?_
      rintro e W6 ⟨rfl, hc6⟩
      have hd1 := (Hc5.out.nil_trans hc6).heap H4.out (by simp)
      have hd2 := (Hc5.out.nil_trans hc6).heap Hd2.out (by simp)
      have hcw := O5.out.chg.nil_trans hc6
      have Hd1' := Lib.hid hd1
      have Hd2' := Lib.hid hd2
      have Hcw := Lib.hid hcw
      clear hc6 hd1 hd2 hcw
      go_wp2_with fail
      refine leaves_marks [D2, D] _ (by simp [hne]) (fun D' h => by simp at h; rcases h with rfl | rfl; exact Hd2'.out; exact Hd1'.out) (fun w' hc hs => ?_)
      refine ⟨.bool true, by simp [results, Try.f5, go_sem], rfl, (Hcw.out.trans hc (fun k hk hlt => ?_)).below (Nat.le_refl _) (by simp)⟩
      simp at hk
      have := H5.out.chg.size
      omega
end Go.Proofs.Ytielhbhiallcpaa
