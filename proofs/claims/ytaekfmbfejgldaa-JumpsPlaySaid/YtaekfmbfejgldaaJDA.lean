/- jumps: drop for Adjust's closure; Adjust. -/
import Derived.Test.YtaekfmbfejgldaaJS
import Derived.Test.YtaekfmbfejgldaaStillIn
namespace Go.Proofs.Ytaekfmbfejgldaa
open Go Go.RowKit Go.Fol
attribute [local go_sem ↓] Go.wp_at_zero Go.wp_at_succ
attribute [local go_sem] Oper.semAt_some
set_option linter.unusedVariables false
set_option linter.unusedSimpArgs false
abbrev oint (c : Nat) (n : Int) : Asrt := Asrt.obj c (.cells #[.int .i64 n] 3 (0, 0))
/-- The places behind k rounds. -/
def adjM (pa po pn : Int) (M : List (Int × Int)) (k : Nat) : List (Int × Int) := (M.take k).map (adjP pa po pn) ++ M.drop k
theorem adjM_zero (pa po pn : Int) (M) : adjM pa po pn M 0 = M := by simp [adjM]
theorem adjM_all (pa po pn : Int) (M) : adjM pa po pn M M.length = M.map (adjP pa po pn) := by simp [adjM]
theorem adjM_len (pa po pn : Int) (M) (k : Nat) : (adjM pa po pn M k).length = M.length := by simp [adjM]; omega
theorem adjM_step {pa po pn : Int} {M : List (Int × Int)} {k : Nat} {q : Int × Int} (hq : M[k]? = some q) : adjM pa po pn M (k + 1) = (adjM pa po pn M k).set k (adjP pa po pn q) := by
  obtain ⟨h1, rfl⟩ := List.getElem?_eq_some_iff.1 hq
  have hl : ((M.take k).map (adjP pa po pn)).length = k := by simp; omega
  rw [adjM, adjM, List.take_succ_eq_append_getElem h1, List.map_append, List.drop_eq_getElem_cons h1, List.set_append_right _ _ (by omega), hl, Nat.sub_self, List.set_cons_zero, List.append_assoc]
  rfl
section
variable {w0 w : World} {R : List Asrt}
theorem kadj (c1 c2 c3 : Nat) (pa po pn a b : Int) (W : World) (h1 : W.cell? ⟨c1, 0, none⟩ = some (.int .i64 pa)) (h2 : W.cell? ⟨c2, 0, none⟩ = some (.int .i64 po)) (h3 : W.cell? ⟨c3, 0, none⟩ = some (.int .i64 pn)) (hs : smallN a pa po pn) :
    Calls Try.prog 26 #[.agg #[.int .i64 a, .int .i64 b], .pointer (some ⟨c1, 0, none⟩), .pointer (some ⟨c2, 0, none⟩), .pointer (some ⟨c3, 0, none⟩)] W fun e W' => e = .returned (.bool (adjK pa po pn (a, b))) ∧ Chg [] W W' := by
  have h1' := cell_alloc h1 (.cells #[.int .i64 a, .int .i64 b] 29)
  have h2' := cell_alloc h2 (.cells #[.int .i64 a, .int .i64 b] 29)
  have h3' := cell_alloc h3 (.cells #[.int .i64 a, .int .i64 b] 29)
  have Hs := Lib.hid (mshift a pa po pn (W.alloc (.cells #[.int .i64 a, .int .i64 b] 29)) hs)
  clear h1 h2 h3 hs
  go_enter Try.func26, Try.ntmps26
  go_wp2_with fail
  refine Hs.out.mono ?_
  rintro e w' ⟨rfl, rfl⟩
  go_wp2_with fail
  go_ret
  exact ⟨rfl, (Chg.refl [] W).alloc _⟩
set_option maxHeartbeats 1000000 in
set_option maxRecDepth 100000 in
theorem jdrop_adj {j v c1 c2 c3 at_ : Nat} {L : List (Int × Int)} {pa po pn : Int} (H : Owns w0 w (jobj j v at_ :: posvec v L :: oint c1 pa :: oint c2 po :: oint c3 pn :: R)) (hat : at_ ≤ L.length) (hsm : ∀ p ∈ L, smallN p.1 pa po pn) (hb : L.length * 16 ≤ 140737488355328) :
    Calls Try.prog 19 #[.pointer (some ⟨j, 0, none⟩), .func (.func 26) #[] #[.pointer (some ⟨c1, 0, none⟩), .pointer (some ⟨c2, 0, none⟩), .pointer (some ⟨c3, 0, none⟩)]] w
      (Ret (.tuple #[]) w0 (jobj j v (((L.take at_).filter (adjK pa po pn)).length : Nat) :: posvec v (L.filter (adjK pa po pn)) :: oint c1 pa :: oint c2 po :: oint c3 pn :: R)) := by
  obtain ⟨n, hn⟩ : ∃ n, n = L.length := ⟨_, rfl⟩
  have hc0 : w.cell? ⟨j, 0, none⟩ = some (.pointer (some ⟨v, 0, none⟩)) := H.cell (j := 0) rfl
  have H1 := Lib.hid ((H.alloc #[.pointer (some ⟨j, 0, none⟩)] 24).alloc #[.func (.func 26) #[] #[.pointer (some ⟨c1, 0, none⟩), .pointer (some ⟨c2, 0, none⟩), .pointer (some ⟨c3, 0, none⟩)]] 53)
  have hb1 := Lib.hid hb
  have hc1 := cell_alloc (cell_alloc hc0 (.cells #[.pointer (some ⟨j, 0, none⟩)] 24)) (.cells #[.func (.func 26) #[] #[.pointer (some ⟨c1, 0, none⟩), .pointer (some ⟨c2, 0, none⟩), .pointer (some ⟨c3, 0, none⟩)]] 53)
  refine calls_of_wp_marks Try.func19 rfl ?_
  simp only [Try.ntmps19, List.size_toArray, List.length_cons, List.length_nil, Nat.reduceAdd, Nat.reduceSub, Array.replicate_succ, Array.replicate_zero, List.push_toArray, List.append_toArray, List.nil_append, List.cons_append]
  clear H hb hn hc0
  go_wp2_with fail
  refine (o_back_pos H1.out.p3 (poss_one L) hb1.out).mono ?_
  rintro e w1 ⟨b, rfl, h1⟩
  obtain ⟨S, hseq, h2⟩ := o_seq_back_pos h1 (are_poss L)
  obtain ⟨B2, hB2⟩ : ∃ B, B = w.heap.size := ⟨_, rfl⟩
  obtain ⟨B3, hB3⟩ : ∃ B, B = (w.alloc (Obj.cells #[.pointer (some ⟨j, 0, none⟩)] 24)).heap.size := ⟨_, rfl⟩
  rw [← hB3, ← hB2] at h2
  rw [show w.heap.size + 1 = B3 by rw [hB3]; simp, ← hB2]
  obtain ⟨K, hK⟩ : ∃ K : Int × Int → Bool, K = adjK pa po pn := ⟨_, rfl⟩
  have Hsm := Lib.hid hsm
  have H2 := Lib.hid h2
  have Hseq := Lib.hid hseq
  have HK := Lib.hid hK
  have Hat := Lib.hid hat
  clear h1 h2 hseq H1 hc1 hB2 hB3 hK hat hsm
  go_wp2_with fail
  refine wp_range_own2 (gf := 42) (lb := #[.pointer (some ⟨b, 0, none⟩)]) rfl (enters_fn Try.func42 (by kernel_rfl) rfl) Hseq.out (fun _ => rfl) (w0 := w0)
    (R := [Asrt.obj B3 (.cells #[.func (.func 26) #[] #[.pointer (some ⟨c1, 0, none⟩), .pointer (some ⟨c2, 0, none⟩), .pointer (some ⟨c3, 0, none⟩)]] 53 (0, 0)), Asrt.obj B2 (.cells #[.pointer (some ⟨j, 0, none⟩)] 24 (0, 0)), oint c1 pa, oint c2 po, oint c3 pn] ++ R)
    (fun k => Asrt.all [jobj j v (dropAt K L at_ k : Nat), posvec v (dropL K L k)])
    (fun k a' => Asrt.ex fun B : Nat => Asrt.ex fun q : Int × Int => Asrt.all [Asrt.pure (L[L.length - 1 - k]? = some q ∧ a' = { tmps := #[.pointer (some ⟨j, 0, none⟩), .func (.func 26) #[] #[.pointer (some ⟨c1, 0, none⟩), .pointer (some ⟨c2, 0, none⟩), .pointer (some ⟨c3, 0, none⟩)], .pointer (some ⟨B2, 0, none⟩), .pointer (some ⟨B3, 0, none⟩), .int .i64 ((L.length - 1 - k : Nat) : Int), .pointer (some ⟨B, 0, none⟩), .pointer (some ⟨j, 0, none⟩), .pointer (some ⟨j, 0, none⟩), .pointer (some ⟨j, 0, none⟩), .pointer (some ⟨v, 0, none⟩), .func (.func 42) #[] #[.pointer (some ⟨b, 0, none⟩)], .int .i64 ((L.length - 1 - k : Nat) : Int), .agg #[.int .i64 q.1, .int .i64 q.2], undef, undef, undef, undef, undef, undef, undef, undef, undef, undef, undef, undef, undef, undef, undef, undef, undef, undef, undef, undef, undef, undef], defers := [] }), Asrt.obj B (.cells #[.int .i64 q.1, .int .i64 q.2] 29 (0, 0)), jobj j v (dropAt K L at_ k : Nat), posvec v (dropL K L k)])
    (fun _ => Asrt.pure False) ?start ?assign ?body ?done ?stop
  case start =>
    refine Owns.allI (L := [_, _]) ?_
    rw [dropL_zero, dropAt_zero _ _ Hat.out]
    exact H2.out.ord [4, 1]
  case assign =>
    intro l k W Kk Z hk HW hkk
    obtain ⟨q, hq⟩ : ∃ q, L[L.length - 1 - k]? = some q := ⟨_, List.getElem?_eq_getElem (by omega)⟩
    have hg := poss_get hq
    have e0 : (poss L)[(L.length - 1 - k) * 2]?.getD undef = .int .i64 q.1 := by rw [hg.1]; rfl
    have e1 : (poss L)[(L.length - 1 - k) * 2 + 1]?.getD undef = .int .i64 q.2 := by rw [hg.2]; rfl
    rw [e0, e1]
    have HW1 := Lib.hid HW
    have Hq := Lib.hid hq
    have Hkk := Lib.hid hkk
    clear hg e0 e1 HW hq hkk
    gi_wp2
    refine Hkk.out _ _ (Owns.exI W.heap.size (Owns.exI q (Owns.allI (L := [_, _, _, _]) (Owns.pureI ((Owns.allE (L := [_, _]) HW1.out).alloc _ _) ⟨Hq.out, rfl⟩))))
  case body =>
    intro l k a' W Z hk HW
    obtain ⟨B, HW⟩ := HW.exE
    obtain ⟨q, HW⟩ := HW.exE
    obtain ⟨⟨hq, rfl⟩, HW'⟩ := (Owns.allE (L := [_, _, _, _]) HW).pureE
    clear HW
    have HW := HW'
    clear HW'
    have kb3 : W.cell? ⟨B3, 0, none⟩ = some (.func (.func 26) #[] #[.pointer (some ⟨c1, 0, none⟩), .pointer (some ⟨c2, 0, none⟩), .pointer (some ⟨c3, 0, none⟩)]) := (HW.mem (A := Asrt.obj B3 (.cells #[.func (.func 26) #[] #[.pointer (some ⟨c1, 0, none⟩), .pointer (some ⟨c2, 0, none⟩), .pointer (some ⟨c3, 0, none⟩)]] 53 (0, 0))) (by simp)).cell (j := 0) rfl
    have kb2 : W.cell? ⟨B2, 0, none⟩ = some (.pointer (some ⟨j, 0, none⟩)) := (HW.mem (A := Asrt.obj B2 (.cells #[.pointer (some ⟨j, 0, none⟩)] 24 (0, 0))) (by simp)).cell (j := 0) rfl
    have hB : W.heap[B]? = some (.cells #[.int .i64 q.1, .int .i64 q.2] 29 (0, 0)) := HW.obj
    have kq0 := cell_of_heap hB (j := 0) rfl
    have kq1 := cell_of_heap hB (j := 1) rfl
    clear hB
    have Hq := Lib.hid hq
    have H5 := Lib.hid HW
    have k1 : W.cell? ⟨c1, 0, none⟩ = some (.int .i64 pa) := (HW.mem (A := oint c1 pa) (by simp)).cell (j := 0) rfl
    have k2 : W.cell? ⟨c2, 0, none⟩ = some (.int .i64 po) := (HW.mem (A := oint c2 po) (by simp)).cell (j := 0) rfl
    have k3 : W.cell? ⟨c3, 0, none⟩ = some (.int .i64 pn) := (HW.mem (A := oint c3 pn) (by simp)).cell (j := 0) rfl
    have Hkp := Lib.hid (kadj c1 c2 c3 pa po pn q.1 q.2 W k1 k2 k3 (Hsm.out q (List.mem_of_getElem? hq)))
    clear HW hq k1 k2 k3
    gi_wp2_with fail
    refine in_round (Hkp.out.mono ?_)
    rintro e W2 ⟨rfl, hc⟩
    have h6 := H5.out.quiet hc
    clear Hkp kb3 kb2 kq0 kq1 hc
    have hKq : K q = adjK pa po pn (q.1, q.2) := by rw [HK.out]
    have kb2 : W2.cell? ⟨B2, 0, none⟩ = some (.pointer (some ⟨j, 0, none⟩)) := (h6.mem (A := Asrt.obj B2 (.cells #[.pointer (some ⟨j, 0, none⟩)] 24 (0, 0))) (by simp)).cell (j := 0) rfl
    have kj0 : W2.cell? ⟨j, 0, none⟩ = some (.pointer (some ⟨v, 0, none⟩)) := h6.p1.cell (j := 0) rfl
    cases hkeep : adjK pa po pn (q.1, q.2) with
    | true =>
      have hn := Lib.hid (show Owns w0 W2 (Asrt.all [jobj j v (dropAt K L at_ (k + 1) : Nat), posvec v (dropL K L (k + 1))] :: Z :: ([Asrt.obj B3 (.cells #[.func (.func 26) #[] #[.pointer (some ⟨c1, 0, none⟩), .pointer (some ⟨c2, 0, none⟩), .pointer (some ⟨c3, 0, none⟩)]] 53 (0, 0)), Asrt.obj B2 (.cells #[.pointer (some ⟨j, 0, none⟩)] 24 (0, 0)), oint c1 pa, oint c2 po, oint c3 pn] ++ R)) by
        rw [dropL_keep hk Hq.out (hKq.trans hkeep), dropAt_keep Hat.out hk Hq.out (hKq.trans hkeep)]
        exact Owns.allI (L := [_, _]) h6.drop)
      clear h6 hKq hkeep
      gi_wp2
      exact hn.out
    | false =>
      have hl := dropL_lt (K := K) hk
      have hll := dropL_len (K := K) (L := L) (k := k)
      have hnx := dropL_next hk Hq.out (hKq.trans hkeep)
      have hdel := o_delete_pos (L.length - 1 - k) 1 1 (h6.ord [2]) (poss_one _) hl (by decide) (by omega) (by omega) (by have := hb1.out; omega)
      rw [flat_take posf_len, flat_drop posf_len, ← flat_append, hnx] at hdel
      have Hdel := Lib.hid hdel
      have Hl := Lib.hid hl
      have Hnx := Lib.hid (dropAt_next Hat.out hk Hq.out (hKq.trans hkeep))
      have Hnl := Lib.hid (show (dropL K L (k + 1)).length = (dropL K L k).length - 1 by rw [← hnx]; simp; omega)
      clear h6 hKq hkeep hl hll hnx hdel
      gi_wp2_with fail
      refine in_round (Hdel.out.mono ?_)
      rintro e W3 ⟨d, rfl, h7⟩
      have h8 := (h7.p1.drop).ord [2]
      have kb2 : W3.cell? ⟨B2, 0, none⟩ = some (.pointer (some ⟨j, 0, none⟩)) := (h8.mem (A := Asrt.obj B2 (.cells #[.pointer (some ⟨j, 0, none⟩)] 24 (0, 0))) (by simp [ordL, takeAt])).cell (j := 0) rfl
      have kj1 : W3.cell? ⟨j, 1, none⟩ = some (.int .i64 (dropAt K L at_ k : Nat)) := h8.cell (j := 1) rfl
      have fj1 : W3.frozen? ⟨j, 1, none⟩ = false := h8.frozen 1
      have h9 : Owns w0 W3 (jobj j v (dropAt K L at_ k : Nat) :: posvec v (dropL K L (k + 1)) :: Z :: ([Asrt.obj B3 (.cells #[.func (.func 26) #[] #[.pointer (some ⟨c1, 0, none⟩), .pointer (some ⟨c2, 0, none⟩), .pointer (some ⟨c3, 0, none⟩)]] 53 (0, 0)), Asrt.obj B2 (.cells #[.pointer (some ⟨j, 0, none⟩)] 24 (0, 0)), oint c1 pa, oint c2 po, oint c3 pn] ++ R)) := by
        rw [posvec, Hnl.out]
        exact (h8.ord [2]).drop
      have hm : dropAt K L at_ k ≤ L.length := dropAt_le _ _ _ _ Hat.out
      have hLm : L.length ≤ 8796093022208 := by have := hb1.out; omega
      have Hm := Lib.hid (dropAt_le K L at_ (k + 1) Hat.out)
      have Hnx' := Hnx.out
      have H9 := Lib.hid h9
      have Hk := Lib.hid hk
      clear h7 h8 h9 Hdel Hnx hk
      generalize dropAt K L at_ k = m at *
      obtain ⟨ii, hii⟩ : ∃ ii, L.length - 1 - k = ii := ⟨_, rfl⟩
      rw [hii] at Hnx' ⊢
      have Hii := Lib.hid hii
      clear hii
      rcases Hnx' with ⟨hi, he⟩ | ⟨hi, he⟩
      · obtain ⟨m', rfl⟩ : ∃ m', m = m' + 1 := ⟨m - 1, by omega⟩
        have he' := Lib.hid (show dropAt K L at_ (k + 1) = m' by omega)
        have hiI : (ii : Int) < (m' : Int) + 1 := by omega
        rw [Int.natCast_add, Int.natCast_one] at kj1
        have h10 := Lib.hid (H9.out.set 1 (.int .i64 m'))
        clear he hi
        gi_wp2
        have := h10.out
        rw [roundOwn, he'.out]
        exact Owns.allI (L := [_, _]) h10.out
      · have hiI : ¬ ((ii : Int) < (m : Int)) := by omega
        have he' := Lib.hid he
        clear he hi
        gi_wp2
        rw [roundOwn, he'.out]
        exact Owns.allI (L := [_, _]) H9.out
  case done =>
    intro D W HW
    rw [dropL_all, dropAt_all, HK.out] at HW
    have HW' := Owns.allE (L := [_, _]) HW
    have H3 := Lib.hid HW'
    clear HW HW'
    go_wp2_with fail
    refine leaves_own [D] _ H3.out.p2 (fun w' hw' => ?_)
    exact ⟨.tuple #[], by simp [results, Try.f19, go_sem], rfl, ((hw'.ord [2]).drop.ord [2]).drop⟩
  case stop =>
    intro D cd W HW
    exact HW.pureE.1.elim

set_option maxHeartbeats 1000000 in
set_option maxRecDepth 100000 in
theorem jadjust {j at_ : Nat} {L : List (Int × Int)} {pa po pn : Int} (H : Owns w0 w (Asrt.jumps j L at_ :: R)) (hat : at_ ≤ L.length) (hl : L.length ≤ 16) (hsm : ∀ p ∈ L, smallN p.1 pa po pn) :
    Calls Try.prog 15 #[.pointer (some ⟨j, 0, none⟩), .int .i64 pa, .int .i64 po, .int .i64 pn] w (Ret (.tuple #[]) w0 (Asrt.jumps j (adjL pa po pn L) ((L.take at_).filter (adjK pa po pn)).length :: R)) := by
  obtain ⟨v, h⟩ := jumpsE H
  obtain ⟨W, hW⟩ : ∃ W, (((w.alloc (.cells #[.pointer (some ⟨j, 0, none⟩)] 24)).alloc (.cells #[.int .i64 pa] 3)).alloc (.cells #[.int .i64 po] 3)).alloc (.cells #[.int .i64 pn] 3) = W := ⟨_, rfl⟩
  have h1 : Owns w0 W (oint (w.heap.size + 1 + 1 + 1) pn :: oint (w.heap.size + 1 + 1) po :: oint (w.heap.size + 1) pa :: Asrt.obj w.heap.size (.cells #[.pointer (some ⟨j, 0, none⟩)] 24 (0, 0)) :: jobj j v at_ :: posvec v L :: R) := by
    have := (((h.alloc #[.pointer (some ⟨j, 0, none⟩)] 24).alloc #[.int .i64 pa] 3).alloc #[.int .i64 po] 3).alloc #[.int .i64 pn] 3
    rw [World.size_alloc, World.size_alloc, World.size_alloc, hW] at this
    exact this
  obtain ⟨B0, hB0⟩ : ∃ B, B = w.heap.size := ⟨_, rfl⟩
  obtain ⟨B1, hB1⟩ : ∃ B, B = w.heap.size + 1 := ⟨_, rfl⟩
  obtain ⟨B2, hB2⟩ : ∃ B, B = w.heap.size + 1 + 1 := ⟨_, rfl⟩
  obtain ⟨B3, hB3⟩ : ∃ B, B = w.heap.size + 1 + 1 + 1 := ⟨_, rfl⟩
  rw [← hB3, ← hB2, ← hB1, ← hB0] at h1
  have kb0 : W.cell? ⟨B0, 0, none⟩ = some (.pointer (some ⟨j, 0, none⟩)) := (h1.ord [3]).cell (j := 0) rfl
  have Hd := Lib.hid (jdrop_adj (h1.ord [4, 4, 2, 1, 0]) hat hsm (by omega))
  have HW := Lib.hid hW
  have HB := Lib.hid (And.intro hB0 (And.intro hB1 (And.intro hB2 hB3)))
  have Hsm := Lib.hid hsm
  have hM : (L.filter (adjK pa po pn)).length ≤ 16 := Nat.le_trans (List.length_filter_le _ _) hl
  clear h1 hW hB0 hB1 hB2 hB3 h H hsm
  refine calls_of_wp_marks Try.func15 rfl ?_
  simp only [Try.ntmps15, List.size_toArray, List.length_cons, List.length_nil, Nat.reduceAdd, Nat.reduceSub, Array.replicate_succ, Array.replicate_zero, List.push_toArray, List.append_toArray, List.nil_append, List.cons_append]
  go_upto_region 1 with (fail)
  rw [HW.out, ← HB.out.2.2.2, ← HB.out.2.2.1, ← HB.out.2.1, ← HB.out.1]
  clear HW HB
  go_wp2_with fail
  refine Hd.out.mono ?_
  rintro e w2 ⟨rfl, h2⟩
  obtain ⟨M, hM2⟩ : ∃ M, M = L.filter (adjK pa po pn) := ⟨_, rfl⟩
  obtain ⟨at2, hat2⟩ : ∃ n, n = ((L.take at_).filter (adjK pa po pn)).length := ⟨_, rfl⟩
  rw [← hM2] at h2 hM
  rw [← hat2] at h2
  have hMs : ∀ p ∈ M, smallN p.1 pa po pn := fun p hp => by rw [hM2] at hp; exact Hsm.out p (List.mem_filter.1 hp).1
  have HMs := Lib.hid hMs
  have HM2 := Lib.hid hM2
  have Hat2 := Lib.hid hat2
  have kb0' : w2.cell? ⟨B0, 0, none⟩ = some (.pointer (some ⟨j, 0, none⟩)) := (h2.ord [5]).cell (j := 0) rfl
  have kj : w2.cell? ⟨j, 0, none⟩ = some (.pointer (some ⟨v, 0, none⟩)) := h2.cell (j := 0) rfl
  have H2 := Lib.hid h2
  clear h2 hM2 hat2 hMs kb0 Hd Hsm
  go_wp2_with fail
  refine (o_all_pos H2.out.p1 (poss_one M) (by omega)).mono ?_
  rintro e w3 ⟨b, rfl, h3⟩
  obtain ⟨S, hseq, h4⟩ := o_seq_all_pos h3 (are_poss M)
  have H4 := Lib.hid h4
  have Hseq := Lib.hid hseq
  clear h3 h4 hseq H2 kb0' kj
  go_wp2_with fail
  refine wp_range_own2 (gf := 41) (lb := #[.pointer (some ⟨b, 0, none⟩)]) rfl (enters_fn Try.func41 (by kernel_rfl) rfl) Hseq.out (fun _ => rfl) (w0 := w0)
    (R := [jobj j v at2, oint B1 pa, oint B2 po, oint B3 pn, Asrt.obj B0 (.cells #[.pointer (some ⟨j, 0, none⟩)] 24 (0, 0))] ++ R)
    (fun k => posvec v (adjM pa po pn M k))
    (fun k a' => Asrt.ex fun C : Nat => Asrt.ex fun q : Int × Int => Asrt.all [Asrt.pure (M[k]? = some q ∧ a' = { tmps := #[.pointer (some ⟨j, 0, none⟩), .int .i64 pa, .int .i64 po, .int .i64 pn, .pointer (some ⟨B0, 0, none⟩), .pointer (some ⟨B1, 0, none⟩), .pointer (some ⟨B2, 0, none⟩), .pointer (some ⟨B3, 0, none⟩), .int .i64 (k : Int), .pointer (some ⟨C, 0, none⟩), .pointer (some ⟨j, 0, none⟩), .func (.func 26) #[] #[.pointer (some ⟨B1, 0, none⟩), .pointer (some ⟨B2, 0, none⟩), .pointer (some ⟨B3, 0, none⟩)], .tuple #[], .pointer (some ⟨j, 0, none⟩), .pointer (some ⟨j, 0, none⟩), .pointer (some ⟨j, 0, none⟩), .pointer (some ⟨v, 0, none⟩), .func (.func 41) #[] #[.pointer (some ⟨b, 0, none⟩)], .int .i64 (k : Int), .agg #[.int .i64 q.1, .int .i64 q.2], undef, undef, undef, undef, undef, undef, undef, undef, undef, undef, undef, undef, undef, undef, undef, undef, undef], defers := [] }), Asrt.obj C (.cells #[.int .i64 q.1, .int .i64 q.2] 29 (0, 0)), posvec v (adjM pa po pn M k)])
    (fun _ => Asrt.pure False) ?start ?assign ?body ?done ?stop
  case start =>
    rw [adjM_zero]
    exact H4.out.p1
  case assign =>
    intro l k W Kk Z hk HW hkk
    obtain ⟨q, hq⟩ : ∃ q, M[k]? = some q := ⟨_, List.getElem?_eq_getElem (by omega)⟩
    have hg := poss_get hq
    have e0 : (poss M)[k * 2]?.getD undef = .int .i64 q.1 := by rw [hg.1]; rfl
    have e1 : (poss M)[k * 2 + 1]?.getD undef = .int .i64 q.2 := by rw [hg.2]; rfl
    simp only [e0, e1]
    have HW1 := Lib.hid HW
    have Hq := Lib.hid hq
    have Hkk := Lib.hid hkk
    clear hg e0 e1 HW hq hkk
    gi_wp2
    exact Hkk.out _ _ (Owns.exI W.heap.size (Owns.exI q (Owns.allI (L := [_, _, _]) (Owns.pureI (HW1.out.alloc _ _) ⟨Hq.out, rfl⟩))))
  case body =>
    intro l k a' W Z hk HW
    obtain ⟨C, HW⟩ := HW.exE
    obtain ⟨q, HW⟩ := HW.exE
    obtain ⟨⟨hq, rfl⟩, HW'⟩ := (Owns.allE (L := [_, _, _]) HW).pureE
    have hC : W.heap[C]? = some (.cells #[.int .i64 q.1, .int .i64 q.2] 29 (0, 0)) := HW'.obj
    have kc0 := cell_of_heap hC (j := 0) rfl
    have kc1 := cell_of_heap hC (j := 1) rfl
    have fc0 := frozen_of_heap hC 0
    have k1 : W.cell? ⟨B1, 0, none⟩ = some (.int .i64 pa) := (HW'.mem (A := oint B1 pa) (by simp)).cell (j := 0) rfl
    have k2 : W.cell? ⟨B2, 0, none⟩ = some (.int .i64 po) := (HW'.mem (A := oint B2 po) (by simp)).cell (j := 0) rfl
    have k3 : W.cell? ⟨B3, 0, none⟩ = some (.int .i64 pn) := (HW'.mem (A := oint B3 pn) (by simp)).cell (j := 0) rfl
    have Hs := Lib.hid (mshift q.1 pa po pn W (HMs.out q (List.mem_of_getElem? hq)))
    obtain ⟨y, hy⟩ : ∃ y, y = (shiftF q.1 pa po pn).1 := ⟨_, rfl⟩
    rw [← hy] at Hs
    have hst := adjM_step hq (pa := pa) (po := po) (pn := pn)
    rw [adjP, ← hy] at hst
    have H5 := Lib.hid HW'
    have Hst := Lib.hid hst
    clear hC HW HW' hq hy hst
    gi_wp2_with fail
    refine in_round (Hs.out.mono ?_)
    rintro e w' ⟨rfl, rfl⟩
    clear Hs
    obtain ⟨W2, hW2⟩ : ∃ W2, W.setCell ⟨C, 0, none⟩ (.int .i64 y) = W2 := ⟨_, rfl⟩
    have h6 := H5.out.set 0 (.int .i64 y)
    rw [hW2] at h6
    have hC2 : W2.heap[C]? = some (.cells #[.int .i64 y, .int .i64 q.2] 29 (0, 0)) := h6.obj
    have kd0 := cell_of_heap hC2 (j := 0) rfl
    have kd1 := cell_of_heap hC2 (j := 1) rfl
    have kb0 : W2.cell? ⟨B0, 0, none⟩ = some (.pointer (some ⟨j, 0, none⟩)) := (h6.mem (A := Asrt.obj B0 (.cells #[.pointer (some ⟨j, 0, none⟩)] 24 (0, 0))) (by simp)).cell (j := 0) rfl
    have kj : W2.cell? ⟨j, 0, none⟩ = some (.pointer (some ⟨v, 0, none⟩)) := (h6.mem (A := jobj j v at2) (by simp)).cell (j := 0) rfl
    have hml := adjM_len pa po pn M k
    have hset := o_set_pos k y q.2 h6.drew.p1 (by rw [hml]; exact hk)
    rw [poss_set _ _ (by rw [hml]; exact hk), ← Hst.out] at hset
    have Hset := Lib.hid hset
    have HW2 := Lib.hid hW2
    clear hC2 h6 hset hW2 hml
    gi_wp2_with fail
    rw [HW2.out]
    clear kc0 kc1 fc0 k1 k2 k3 HW2
    refine wpIn_region_still_tail 6 (by kernel_rfl) (by kernel_rfl) (by kernel_rfl) ?_
    simp only [List.take_succ_cons, List.take_zero, List.drop_succ_cons, List.drop_zero]
    repeat still_step
    refine wpStill_nil ?_
    change wpListIn _ _ _ _ _ _ _ W2.drew
    gi_wp2_with fail
    refine in_round (Hset.out.mono ?_)
    rintro e W3 ⟨rfl, h7⟩
    have H7 := Lib.hid h7
    clear h7
    gi_wp2
    have := H7.out.p1.drop
    rw [roundOwn, posvec, adjM_len]
    rw [adjM_len] at this
    exact this
  case done =>
    intro D W HW
    have H3 := Lib.hid HW
    clear HW
    go_wp2_with fail
    refine leaves_own [D] _ H3.out.p1 (fun w' hw' => ?_)
    rw [adjM_all] at hw'
    refine ⟨.tuple #[], by simp [results, Try.f15, go_sem], rfl, jumpsI (v := v) ?_⟩
    rw [adjL, ← HM2.out, ← Hat2.out]
    exact ((((hw'.ord [2]).drop.ord [2]).drop.ord [2]).drop.ord [2]).drop.p1
  case stop =>
    intro D cd W HW
    exact HW.pureE.1.elim
end
end Go.Proofs.Ytaekfmbfejgldaa
