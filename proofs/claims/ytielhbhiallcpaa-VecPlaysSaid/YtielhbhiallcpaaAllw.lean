/- 'all' of a vector and its list: true. -/
import Derived.Test.YtielhbhiallcpaaVecAllInt
import Derived.Test.YtielhbhiallcpaaVecBackInt
import Derived.RegionTactic
import Derived.Deep.QuietTactic
import Derived.BigQuiet
import Derived.Handy
namespace Go.Proofs.Ytielhbhiallcpaa
open Go Go.RowKit Go.Fol
attribute [local go_sem] Oper.semAt_some
set_option linter.unusedVariables false
set_option linter.unusedSimpArgs false

theorem len_same_int (p : Nat) (sv : Value) (n : Nat) (xs : List Value) (w : World) (h : VecAt w 58 3 1 p sv n xs) :
    Calls Try.prog 22 #[.pointer (some ⟨p, 0, none⟩)] w fun e w' => e = .returned (.int .i64 n) ∧ w' = w :=
  (len_int p sv n xs w h).mono fun e w' ⟨h1, h2⟩ => ⟨h1, h2.symm⟩

theorem eql_func_nil (fn : Fn) (x y : Array Value) (w : World) : (binOp .eql 46 (.func fn x y) .nilFunc).run Try.prog w = .ok (.bool false) w := by kernel_rfl

set_option maxHeartbeats 4000000 in
set_option maxRecDepth 100000 in
theorem all_true (p : Nat) (sv a : Value) (l : List Int) (w : World) (hv : VecAt w 58 3 1 p sv l.length (ints l)) (ha : SrcV w 1 a l.length (ints l)) (hb : l.length * 8 ≤ 140737488355328) :
    Calls Try.prog 19 #[.pointer (some ⟨p, 0, none⟩), a] w fun e w' => e = .returned (.bool true) ∧ Chg [] w w' := by
  have hn63 := ha.n63
  obtain ⟨n, hn⟩ : ∃ n, n = l.length := ⟨_, rfl⟩
  rw [← hn] at ha hb hn63 hv
  obtain ⟨aa, ac, rfl⟩ := ha.form
  refine calls_of_wp_marks Try.func19 rfl ?_
  simp only [Try.ntmps19, List.size_toArray, List.length_cons, List.length_nil, Nat.reduceAdd, Nat.reduceSub, Array.replicate_succ, Array.replicate_zero, List.push_toArray, List.append_toArray, List.nil_append, List.cons_append]
  have hfn := fun (fn : Fn) (x y : Array Value) (w : World) => eql_func_nil fn x y w
  have Hv := Lib.hid hv
  have Ha := Lib.hid ha
  have Hn := Lib.hid hn
  clear hn ha hv
  go_wp2
  -- the boxes of 'want' and of the result
  obtain ⟨W1, hW1⟩ : ∃ W1, (w.alloc (.cells #[.slice aa n ac] 31)).alloc (.cells #[.bool false] 4) = W1 := ⟨_, rfl⟩
  have hc1 : Chg [] w W1 := by rw [← hW1]; exact ((Chg.refl [] w).alloc _).alloc _
  have hb3 : W1.heap[w.heap.size]? = some (.cells #[.slice aa n ac] 31 (0, 0)) := by rw [← hW1]; exact (Below.heap_alloc _ _ _ (by simp)).trans (heap_alloc_new _ _)
  have hb4 : W1.heap[w.heap.size + 1]? = some (.cells #[.bool false] 4 (0, 0)) := by
    rw [← hW1]; have := heap_alloc_new (w.alloc (.cells #[.slice aa n ac] 31)) (.cells #[.bool false] 4); rwa [World.size_alloc] at this
  have hs1 : W1.heap.size = w.heap.size + 2 := by rw [← hW1]; simp
  rw [hW1]
  obtain ⟨B3, hB3⟩ : ∃ B, B = w.heap.size := ⟨_, rfl⟩
  obtain ⟨B4, hB4⟩ : ∃ B, B = w.heap.size + 1 := ⟨_, rfl⟩
  rw [← hB3] at hb3 ⊢
  rw [← hB4] at hb4
  rw [show B3 + 1 = B4 by omega]
  have h3 : W1.cell? ⟨B3, 0, none⟩ = some (.slice aa n ac) := cell_of_heap hb3 rfl
  have h4 : W1.cell? ⟨B4, 0, none⟩ = some (.bool false) := cell_of_heap hb4 rfl
  have hvq : ∀ q, VecAt (W1.drewN q) 58 3 1 p sv n (ints l) := fun q => Hv.out.keep (hc1.drewN q) (by simp) (fun _ _ => by simp)
  have Hvq := Lib.hid hvq
  have HB3 := Lib.hid hB3
  have HB4 := Lib.hid hB4
  have Hs1 := Lib.hid hs1
  have Hc1 := Lib.hid hc1
  have Hb3 := Lib.hid hb3
  have Hb4 := Lib.hid hb4
  clear hvq hB3 hB4 hs1 hc1 hb3 hb4 hW1
  go_quiet ((go_at_call 22; exact Calls.quiet_of_same (len_same_int _ _ _ _ _ (Hvq.out _))))
  go_wp2_with fail
  refine (ranged_all_int p sv n (ints l) _ (Hvq.out nq) (ints_one l) hb).mono ?_
  rintro e W2 ⟨b1, s1, rfl, hr1, hcA, hn1⟩
  have hv2 := (Hvq.out nq).keep hcA (by simp) (fun _ _ => by simp)
  have Hr1 := Lib.hid hr1
  have HcA := Lib.hid hcA
  have Hn1 := Lib.hid hn1
  have Hv2 := Lib.hid hv2
  clear hr1 hcA hn1 hv2
  go_wp2_with fail
  refine (ranged_back_int p sv n (ints l) _ Hv2.out (ints_one l) hb).mono ?_
  rintro e W3 ⟨b2, s2, rfl, hr2, hcB, hn2⟩
  have Hr2 := Lib.hid hr2
  have HcB := Lib.hid hcB
  have Hn2 := Lib.hid hn2
  clear hr2 hcB hn2
  go_wp2_with fail
  -- the box of 'n'; the first range
  obtain ⟨W4, hW4⟩ : ∃ W4, W3.alloc (.cells #[.int .i64 0] 3) = W4 := ⟨_, rfl⟩
  obtain ⟨B7, hB7⟩ : ∃ B, B = W3.heap.size := ⟨_, rfl⟩
  have hc4 : Chg [] W3 W4 := by rw [← hW4]; exact (Chg.refl [] W3).alloc _
  have hb7 : W4.heap[B7]? = some (.cells #[.int .i64 0] 3 (0, 0)) := by rw [← hW4, hB7]; exact heap_alloc_new _ _
  rw [hW4, ← hB7]
  have hcw : Chg [] w W4 := (((Hc1.out.drewN nq).nil_trans HcA.out).nil_trans HcB.out).nil_trans hc4
  have hcBC : Chg [] W2 W4 := HcB.out.nil_trans hc4
  have hr1 : VecAt W4 31 3 1 b1 s1 n (ints l) := Hr1.out.keep hcBC (by simp) (fun _ _ => by simp)
  have hr2 : VecAt W4 31 3 1 b2 s2 n (ints l) := Hr2.out.keep hc4 (by simp) (fun _ _ => by simp)
  have hc14 : Chg [] W1 W4 := ((((Chg.refl [] W1).drewN nq).nil_trans HcA.out).nil_trans HcB.out).nil_trans hc4
  have hb3 := hc14.heap Hb3.out (by simp)
  have hb4 := hc14.heap Hb4.out (by simp)
  have hlt1 : ∀ c ∈ vfoot b1 s1, c < B7 := fun c hc => by rw [hB7]; exact Nat.lt_of_lt_of_le (Hr1.out.foot_lt c hc) HcB.out.size
  have hlt2 : ∀ c ∈ vfoot b2 s2, c < B7 := fun c hc => by rw [hB7]; exact Hr2.out.foot_lt c hc
  have hB7w : w.heap.size ≤ B7 := by rw [hB7]; exact (((Hc1.out.drewN nq).nil_trans HcA.out).nil_trans HcB.out).size
  have hB74 : B7 < W4.heap.size := heap_lt hb7
  have hB37 : B3 < B7 := by
    have h1 := Hc1.out.size
    have h2 := HcA.out.size
    have h3 := HcB.out.size
    have h4 := Hs1.out
    have h5 : (W1.drewN nq).heap.size = W1.heap.size := rfl
    have := HB3.out
    omega
  have hB47 : B4 < B7 := by
    have h1 := Hc1.out.size
    have h2 := HcA.out.size
    have h3 := HcB.out.size
    have h4 := Hs1.out
    have h5 : (W1.drewN nq).heap.size = W1.heap.size := rfl
    have := HB4.out
    omega
  clear hW4 h3 h4 hc4 hcBC hc14 hB7
  refine wp_range_plain (gf := 36) (lb := #[.pointer (some ⟨b1, 0, none⟩)]) rfl (enters_fn Try.func36 (by kernel_rfl) rfl) (seq_all_int b1 s1 n (ints l) W4 hr1) (fun c hc => Nat.lt_trans (hlt1 c hc) hB74) (fun _ => rfl)
    (fun k W => W.heap[B3]? = some (.cells #[.slice aa n ac] 31 (0, 0)) ∧ W.heap[B4]? = some (.cells #[.bool false] 4 (0, 0)) ∧ W.heap[B7]? = some (.cells #[.int .i64 (k : Int)] 3 (0, 0)) ∧ VecAt W 31 3 1 b2 s2 n (ints l) ∧ Chg [] w W)
    (fun _ _ => False)
    (fun k W W' ⟨h1, h2, h3, h4, h5⟩ q => ⟨q.heap h1, q.heap h2, q.heap h3, q.vec h4, q.chg h5 hcw.size⟩) (fun _ _ _ h _ => h)
    ⟨hb3, hb4, hb7, hr2, hcw⟩ ?F ?assign ?body ?done (fun _ _ _ _ h _ => h.elim)
  case assign =>
    intro l' k W K hk hK
    gi_wp2
    exact hK
  case body =>
    rintro l' k W hk ⟨h1, h2, h3, h4, h5⟩ hS
    obtain ⟨ab, ao, ac', e1, e2, _, e3⟩ := Ha.out.cells (by omega) (by omega)
    cases e1
    have hx := ints_get l (k := k) (by have := Hn.out; omega)
    have ex : (ints l)[k]?.getD undef = .int .i64 (l[k]?.getD 0) := by rw [hx]; rfl
    have ca := h5.cell (e3 k _ hx) (by simp)
    rw [ex]
    have c3 := cell_of_heap h1 (j := 0) rfl
    have c7 := cell_of_heap h3 (j := 0) rfl
    have f7 := frozen_of_heap h3 0
    have H1 := Lib.hid h1
    have H2 := Lib.hid h2
    have H3 := Lib.hid h3
    have H4 := Lib.hid h4
    have H5 := Lib.hid h5
    have Hlt1 := Lib.hid hlt1
    have Hlt2 := Lib.hid hlt2
    have HS := Lib.hid hS
    clear h1 h2 h3 h4 h5 e3 hx ex hr1 hr2 hb3 hb4 hb7 hlt1 hlt2 hS hcw
    generalize l[k]?.getD 0 = x at *
    gi_wp2
    have hk7 : B7 ∉ vfoot b1 s1 := fun h => by have := Hlt1.out _ h; omega
    have hk7' : ∀ b ∈ vfoot b2 s2, b ∉ [B7] := fun b hb h => by simp at h; have := Hlt2.out _ hb; omega
    have hch : Chg [B7] W (W.setCell ⟨B7, 0, none⟩ (.int .i64 ((k : Int) + 1))) := (Chg.refl _ W).setCell (fun _ => by simp) _
    refine ⟨⟨[B7], hch, fun j hj _ => by simp at hj; subst hj; exact ⟨_, _, _, H3.out⟩, fun c hc => ⟨HS.out c hc, fun hm => by simp at hm; subst hm; exact hk7 hc⟩⟩, hch.heap H1.out (by simp; omega), hch.heap H2.out (by simp; omega), ?_, H4.out.keep' hch hk7', ?_⟩
    · have := heap_set_same H3.out (j := 0) (.int .i64 ((k : Int) + 1))
      simpa using this
    · exact H5.out.setCell (fun h => by simp at h; omega) _
  case done =>
    rintro D W hD ⟨h1, h2, h3, h4, h5⟩ hd
    have c3 := cell_of_heap h1 (j := 0) rfl
    have c7 := cell_of_heap h3 (j := 0) rfl
    have H1 := Lib.hid h1
    have H2 := Lib.hid h2
    have H3 := Lib.hid h3
    have H4 := Lib.hid h4
    have H5 := Lib.hid h5
    have Hd := Lib.hid hd
    have Hlt2 := Lib.hid hlt2
    clear h1 h2 h3 h4 h5 hr1 hr2 hb3 hb4 hb7 hlt1 hlt2 hcw hd
    gi_wp2
    go_wp2
    have hWs : W4.heap.size ≤ D := hD
    have hDW : D < W.heap.size := heap_lt Hd.out
    have hlt2' : ∀ c ∈ vfoot b2 s2, c < W.heap.size := H4.out.foot_lt
    have hwW := H5.out.size
    refine wp_range_plain (gf := 37) (lb := #[.pointer (some ⟨b2, 0, none⟩)]) rfl (enters_fn Try.func37 (by kernel_rfl) rfl) (seq_back_int b2 s2 n (ints l) W H4.out) hlt2' (fun _ => rfl)
      (fun k V => V.heap[B3]? = some (.cells #[.slice aa n ac] 31 (0, 0)) ∧ V.heap[B4]? = some (.cells #[.bool false] 4 (0, 0)) ∧ V.heap[B7]? = some (.cells #[.int .i64 ((n - k : Nat) : Int)] 3 (0, 0)) ∧ V.heap[D]? = some (.deferred (some [])) ∧ Chg [] w V)
      (fun _ _ => False)
      (fun k V V' ⟨h1, h2, h3, h4, h5⟩ q => ⟨q.heap h1, q.heap h2, q.heap h3, q.low hDW h4, q.chg h5 hwW⟩) (fun _ _ _ h _ => h)
      ⟨H1.out, H2.out, H3.out, Hd.out, H5.out⟩ ?F2 ?assign2 ?body2 ?done2 (fun _ _ _ _ h _ => h.elim)
    case assign2 =>
      intro l' k V K hk hK
      gi_wp2
      exact hK
    case body2 =>
      rintro l' k V hk ⟨h1, h2, h3, h4, h5⟩ hS
      obtain ⟨ab, ao, ac', e1, e2, _, e3⟩ := Ha.out.cells (by omega) (by omega)
      cases e1
      obtain ⟨j, hj⟩ : ∃ j, j = n - 1 - k := ⟨_, rfl⟩
      have hx := ints_get l (k := j) (by have := Hn.out; omega)
      have ex : (ints l)[j]?.getD undef = .int .i64 (l[j]?.getD 0) := by rw [hx]; rfl
      have ca := h5.cell (e3 j _ hx) (by simp)
      rw [← hj, ex]
      have hjn : j < n := by omega
      have hnk : ((n - k : Nat) : Int) = (j : Int) + 1 := by omega
      have hnk' : ((n - (k + 1) : Nat) : Int) = (j : Int) := by omega
      rw [hnk] at h3
      have c3 := cell_of_heap h1 (j := 0) rfl
      have c7 := cell_of_heap h3 (j := 0) rfl
      have f7 := frozen_of_heap h3 0
      have e7 : (j : Int) + 1 - 1 = j := by omega
      have H1 := Lib.hid h1
      have H2 := Lib.hid h2
      have H3 := Lib.hid h3
      have H4 := Lib.hid h4
      have H5 := Lib.hid h5
      have Hlt2 := Lib.hid Hlt2.out
      have HS := Lib.hid hS
      have Hnk := Lib.hid hnk'
      clear h1 h2 h3 h4 h5 e3 hx ex hS hj hnk hnk' hlt2'
      generalize l[j]?.getD 0 = x at *
      gi_wp2
      have hk7 : B7 ∉ vfoot b2 s2 := fun h => by have := Hlt2.out _ h; omega
      have hch : Chg [B7] V (V.setCell ⟨B7, 0, none⟩ (.int .i64 (j : Int))) := (Chg.refl _ V).setCell (fun _ => by simp) _
      refine ⟨⟨[B7], hch, fun j hj _ => by simp at hj; subst hj; exact ⟨_, _, _, H3.out⟩, fun c hc => ⟨HS.out c hc, fun hm => by simp at hm; subst hm; exact hk7 hc⟩⟩, hch.heap H1.out (by simp; omega), hch.heap H2.out (by simp; omega), ?_, hch.heap H4.out (by simp; omega), ?_⟩
      · rw [Hnk.out]
        have := heap_set_same H3.out (j := 0) (.int .i64 (j : Int))
        simpa using this
      · exact H5.out.setCell (fun h => by simp at h; omega) _
    case done2 =>
      rintro D2 V hD2 ⟨h1, h2, h3, h4, h5⟩ hd2
      simp only [Nat.sub_self] at h3
      have c7 := cell_of_heap h3 (j := 0) rfl
      have c4 := cell_of_heap h2 (j := 0) rfl
      have f4 := frozen_of_heap h2 0
      have H2 := Lib.hid h2
      have H4 := Lib.hid h4
      have H5 := Lib.hid h5
      have Hd2 := Lib.hid hd2
      clear h1 h2 h3 h4 h5 hd2 hlt2'
      go_wp2
      have hne : D2 ≠ D := by omega
      have hV : Chg [B4] V (V.setCell ⟨B4, 0, none⟩ (.bool true)) := (Chg.refl _ V).setCell (fun _ => by simp) _
      have hB4' := heap_set_same H2.out (j := 0) (.bool true)
      have hd1 := hV.heap H4.out (by simp; omega)
      have hd2 := hV.heap Hd2.out (by simp; omega)
      have hcv : Chg [] w (V.setCell ⟨B4, 0, none⟩ (.bool true)) := H5.out.setCell (fun h => by have := HB4.out; simp at h; omega) _
      refine leaves_marks [D2, D] _ (by simp [hne]) (fun D' h => by simp at h; rcases h with rfl | rfl; exact hd2; exact hd1) (fun w' hc hs => ?_)
      have hb4 : w'.heap[B4]? = some (.cells #[.bool true] 4 (0, 0)) := hc.heap (by simpa using hB4') (by simp; omega)
      have hc4 := cell_of_heap hb4 (j := 0) rfl
      refine ⟨.bool true, by simp [results, Try.f19, go_sem, hc4], rfl, hcv.trans hc (fun k hk hlt => ?_)⟩
      simp at hk
      omega
end Go.Proofs.Ytielhbhiallcpaa
