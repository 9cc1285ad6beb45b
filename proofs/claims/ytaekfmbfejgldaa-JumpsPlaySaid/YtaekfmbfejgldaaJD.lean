/- jumps: places dropped (the plain law), and the walk of drop for Push's closure. -/
import Derived.Test.YtaekfmbfejgldaaJK
namespace Go.Proofs.Ytaekfmbfejgldaa
open Go Go.RowKit Go.Fol
attribute [local go_sem] Oper.semAt_some
set_option linter.unusedVariables false
set_option linter.unusedSimpArgs false
/-- what is left behind k rounds from the end. -/
def dropL (K : Int × Int → Bool) (L : List (Int × Int)) (k : Nat) : List (Int × Int) := L.take (L.length - k) ++ (L.drop (L.length - k)).filter K
/-- the place among them behind k rounds. -/
def dropAt (K : Int × Int → Bool) (L : List (Int × Int)) (at_ k : Nat) : Nat := min at_ (L.length - k) + (((L.take at_).drop (L.length - k)).filter K).length
theorem dropL_zero (K L) : dropL K L 0 = L := by simp [dropL]
theorem dropL_all (K L) : dropL K L L.length = L.filter K := by simp [dropL]
theorem dropAt_zero (K L) {at_ : Nat} (h : at_ ≤ L.length) : dropAt K L at_ 0 = at_ := by
  simp only [dropAt, Nat.sub_zero, Nat.min_eq_left h]
  rw [List.drop_eq_nil_of_le (by simp; omega)]; rfl
theorem dropAt_all (K L) (at_ : Nat) : dropAt K L at_ L.length = ((L.take at_).filter K).length := by simp [dropAt]
theorem drop_step {L : List (Int × Int)} {k : Nat} (hk : k < L.length) {i : Nat} (hi : i = L.length - 1 - k) {p : Int × Int} (hp : L[i]? = some p) :
    L.drop i = p :: L.drop (L.length - k) ∧ L.take (L.length - k) = L.take i ++ [p] := by
  obtain ⟨h1, rfl⟩ := List.getElem?_eq_some_iff.1 hp
  have e : L.length - k = i + 1 := by omega
  rw [e]
  exact ⟨List.drop_eq_getElem_cons h1, by rw [List.take_succ_eq_append_getElem h1]⟩
theorem dropL_keep {K : Int × Int → Bool} {L : List (Int × Int)} {k : Nat} (hk : k < L.length) {p : Int × Int} (hp : L[L.length - 1 - k]? = some p) (h : K p = true) : dropL K L (k + 1) = dropL K L k := by
  obtain ⟨h1, h2⟩ := drop_step hk rfl hp
  rw [dropL, show L.length - (k + 1) = L.length - 1 - k by omega, h1, dropL, h2, List.filter_cons_of_pos h, List.append_assoc, List.singleton_append]
theorem dropL_len {K : Int × Int → Bool} {L : List (Int × Int)} {k : Nat} : (dropL K L k).length ≤ L.length := by
  have := List.length_filter_le K (L.drop (L.length - k))
  simp only [dropL, List.length_append, List.length_take, List.length_drop] at *
  omega
theorem dropL_lt {K : Int × Int → Bool} {L : List (Int × Int)} {k : Nat} (hk : k < L.length) : L.length - 1 - k < (dropL K L k).length := by
  simp only [dropL, List.length_append, List.length_take]
  omega
theorem dropL_next {K : Int × Int → Bool} {L : List (Int × Int)} {k : Nat} (hk : k < L.length) {p : Int × Int} (hp : L[L.length - 1 - k]? = some p) (h : K p = false) :
    (dropL K L k).take (L.length - 1 - k) ++ (dropL K L k).drop (L.length - 1 - k + 1) = dropL K L (k + 1) := by
  obtain ⟨h1, h2⟩ := drop_step hk rfl hp
  have hl : (L.take (L.length - 1 - k)).length = L.length - 1 - k := by simp; omega
  rw [show dropL K L (k + 1) = L.take (L.length - 1 - k) ++ (L.drop (L.length - 1 - k)).filter K by rw [dropL, show L.length - (k + 1) = L.length - 1 - k by omega], h1, dropL, h2, List.filter_cons_of_neg (by simp [h])]
  rw [List.append_assoc, List.take_append_of_le_length (by omega), List.take_of_length_le (by omega), List.drop_append, List.drop_eq_nil_of_le (by omega), hl]
  simp
theorem dropAt_keep {K : Int × Int → Bool} {L : List (Int × Int)} {at_ k : Nat} (hat : at_ ≤ L.length) (hk : k < L.length) {p : Int × Int} (hp : L[L.length - 1 - k]? = some p) (h : K p = true) : dropAt K L at_ (k + 1) = dropAt K L at_ k := by
  have e : L.length - (k + 1) = L.length - 1 - k := by omega
  have e2 : L.length - k = L.length - 1 - k + 1 := by omega
  simp only [dropAt]
  rw [e, e2]
  by_cases hlt : L.length - 1 - k < at_
  · have hp' : (L.take at_)[L.length - 1 - k]? = some p := by rw [List.getElem?_take_of_lt hlt]; exact hp
    obtain ⟨h1, h3⟩ := List.getElem?_eq_some_iff.1 hp'
    rw [List.drop_eq_getElem_cons h1, h3, List.filter_cons_of_pos h, List.length_cons]
    omega
  · rw [List.drop_eq_nil_of_le (by simp; omega), List.drop_eq_nil_of_le (by simp; omega)]
    simp only [List.filter_nil, List.length_nil]
    omega
theorem dropAt_next {K : Int × Int → Bool} {L : List (Int × Int)} {at_ k : Nat} (hat : at_ ≤ L.length) (hk : k < L.length) {p : Int × Int} (hp : L[L.length - 1 - k]? = some p) (h : K p = false) :
    (L.length - 1 - k < dropAt K L at_ k ∧ dropAt K L at_ (k + 1) + 1 = dropAt K L at_ k) ∨ (¬ (L.length - 1 - k < dropAt K L at_ k) ∧ dropAt K L at_ (k + 1) = dropAt K L at_ k) := by
  have e : L.length - (k + 1) = L.length - 1 - k := by omega
  have e2 : L.length - k = L.length - 1 - k + 1 := by omega
  simp only [dropAt]
  rw [e, e2]
  by_cases hlt : L.length - 1 - k < at_
  · have hp' : (L.take at_)[L.length - 1 - k]? = some p := by rw [List.getElem?_take_of_lt hlt]; exact hp
    obtain ⟨h1, h3⟩ := List.getElem?_eq_some_iff.1 hp'
    rw [List.drop_eq_getElem_cons h1, h3, List.filter_cons_of_neg (by simp [h])]
    omega
  · rw [List.drop_eq_nil_of_le (by simp; omega), List.drop_eq_nil_of_le (by simp; omega)]
    simp only [List.filter_nil, List.length_nil]
    omega
theorem dropAt_le (K : Int × Int → Bool) (L : List (Int × Int)) (at_ k : Nat) (hat : at_ ≤ L.length) : dropAt K L at_ k ≤ L.length := by
  have := List.length_filter_le K ((L.take at_).drop (L.length - k))
  simp only [dropAt, List.length_drop, List.length_take] at *
  omega

section
variable {w0 w : World} {R : List Asrt}
theorem kpush (c : Nat) (l0 a b : Int) (W : World) (hc : W.cell? ⟨c, 0, none⟩ = some (.int .i64 l0)) :
    Calls Try.prog 20 #[.agg #[.int .i64 a, .int .i64 b], .pointer (some ⟨c, 0, none⟩)] W fun e W' => e = .returned (.bool (a != l0)) ∧ Chg [] W W' := by
  have hc' := cell_alloc hc (.cells #[.int .i64 a, .int .i64 b] 29)
  clear hc
  go_enter Try.func20, Try.ntmps20
  go_wp2
  go_ret
  exact ⟨rfl, (Chg.refl [] W).alloc _⟩
set_option maxHeartbeats 1000000 in
set_option maxRecDepth 100000 in
theorem jdrop_push {j v c at_ : Nat} {L : List (Int × Int)} {line col : Int} (H : Owns w0 w (jobj j v at_ :: posvec v L :: Asrt.obj c (.cells #[.int .i64 line, .int .i64 col] 29 (0, 0)) :: R)) (hat : at_ ≤ L.length) (hb : L.length * 16 ≤ 140737488355328) :
    Calls Try.prog 19 #[.pointer (some ⟨j, 0, none⟩), .func (.func 20) #[] #[.pointer (some ⟨c, 0, none⟩)]] w
      (Ret (.tuple #[]) w0 (jobj j v (((L.take at_).filter (fun p => p.1 != line)).length : Nat) :: posvec v (L.filter (fun p => p.1 != line)) :: Asrt.obj c (.cells #[.int .i64 line, .int .i64 col] 29 (0, 0)) :: R)) := by
  obtain ⟨n, hn⟩ : ∃ n, n = L.length := ⟨_, rfl⟩
  have hc0 : w.cell? ⟨j, 0, none⟩ = some (.pointer (some ⟨v, 0, none⟩)) := H.cell (j := 0) rfl
  have H1 := Lib.hid ((H.alloc #[.pointer (some ⟨j, 0, none⟩)] 24).alloc #[.func (.func 20) #[] #[.pointer (some ⟨c, 0, none⟩)]] 53)
  have hb1 := Lib.hid hb
  have hc1 := cell_alloc (cell_alloc hc0 (.cells #[.pointer (some ⟨j, 0, none⟩)] 24)) (.cells #[.func (.func 20) #[] #[.pointer (some ⟨c, 0, none⟩)]] 53)
  refine calls_of_wp_marks Try.func19 rfl ?_
  simp only [Try.ntmps19, List.size_toArray, List.length_cons, List.length_nil, Nat.reduceAdd, Nat.reduceSub, Array.replicate_succ, Array.replicate_zero, List.push_toArray, List.append_toArray, List.nil_append, List.cons_append]
  clear H hb hn hc0
  go_wp2_with fail
  refine (o_back_pos H1.out.p3 (poss_one L) hb1.out).mono ?_
  rintro e w1 ⟨b, rfl, h1⟩
  obtain ⟨S, hseq, h2⟩ := o_seq_back_pos h1 (are_poss L)
  obtain ⟨B2, hB2⟩ : ∃ B, B = w.heap.size := ⟨_, rfl⟩
  obtain ⟨B3, hB3⟩ : ∃ B, B = (w.alloc (Obj.cells #[.pointer (some ⟨j, 0, none⟩)] 24)).heap.size := ⟨_, rfl⟩
  rw [← hB3, ← hB2] at h2
  rw [show w.heap.size + 1 = B3 by rw [hB3]; simp, ← hB2]
  obtain ⟨K, hK⟩ : ∃ K : Int × Int → Bool, K = fun p => p.1 != line := ⟨_, rfl⟩
  have H2 := Lib.hid h2
  have Hseq := Lib.hid hseq
  have HK := Lib.hid hK
  have Hat := Lib.hid hat
  clear h1 h2 hseq H1 hc1 hB2 hB3 hK hat
  go_wp2_with fail
  refine wp_range_own2 (gf := 42) (lb := #[.pointer (some ⟨b, 0, none⟩)]) rfl (enters_fn Try.func42 (by kernel_rfl) rfl) Hseq.out (fun _ => rfl) (w0 := w0)
    (R := [Asrt.obj B3 (.cells #[.func (.func 20) #[] #[.pointer (some ⟨c, 0, none⟩)]] 53 (0, 0)), Asrt.obj B2 (.cells #[.pointer (some ⟨j, 0, none⟩)] 24 (0, 0)), Asrt.obj c (.cells #[.int .i64 line, .int .i64 col] 29 (0, 0))] ++ R)
    (fun k => Asrt.all [jobj j v (dropAt K L at_ k : Nat), posvec v (dropL K L k)])
    (fun k a' => Asrt.ex fun B : Nat => Asrt.ex fun q : Int × Int => Asrt.all [Asrt.pure (L[L.length - 1 - k]? = some q ∧ a' = { tmps := #[.pointer (some ⟨j, 0, none⟩), .func (.func 20) #[] #[.pointer (some ⟨c, 0, none⟩)], .pointer (some ⟨B2, 0, none⟩), .pointer (some ⟨B3, 0, none⟩), .int .i64 ((L.length - 1 - k : Nat) : Int), .pointer (some ⟨B, 0, none⟩), .pointer (some ⟨j, 0, none⟩), .pointer (some ⟨j, 0, none⟩), .pointer (some ⟨j, 0, none⟩), .pointer (some ⟨v, 0, none⟩), .func (.func 42) #[] #[.pointer (some ⟨b, 0, none⟩)], .int .i64 ((L.length - 1 - k : Nat) : Int), .agg #[.int .i64 q.1, .int .i64 q.2], undef, undef, undef, undef, undef, undef, undef, undef, undef, undef, undef, undef, undef, undef, undef, undef, undef, undef, undef, undef, undef, undef], defers := [] }), Asrt.obj B (.cells #[.int .i64 q.1, .int .i64 q.2] 29 (0, 0)), jobj j v (dropAt K L at_ k : Nat), posvec v (dropL K L k)])
    (fun _ => Asrt.pure False) ?start ?assign ?body ?done ?stop
  case start =>
    refine Owns.allI (L := [_, _]) ?_
    rw [dropL_zero, dropAt_zero _ _ Hat.out]
    exact H2.out.ord [4, 1]
  case assign =>
    intro l k W Kk Z hk HW hkk
    obtain ⟨q, hq⟩ : ∃ q, L[L.length - 1 - k]? = some q := ⟨_, List.getElem?_eq_getElem (by omega)⟩
    have hg := poss_get hq
    have e0 : (poss L)[(L.length - 1 - k) * 2]?.getD undef = .int .i64 q.1 := by rw [hg.1]; rfl
    have e1 : (poss L)[(L.length - 1 - k) * 2 + 1]?.getD undef = .int .i64 q.2 := by rw [hg.2]; rfl
    rw [e0, e1]
    have HW1 := Lib.hid HW
    have Hq := Lib.hid hq
    have Hkk := Lib.hid hkk
    clear hg e0 e1 HW hq hkk
    gi_wp2
    refine Hkk.out _ _ (Owns.exI W.heap.size (Owns.exI q (Owns.allI (L := [_, _, _, _]) (Owns.pureI ((Owns.allE (L := [_, _]) HW1.out).alloc _ _) ⟨Hq.out, rfl⟩))))
  case body =>
    intro l k a' W Z hk HW
    obtain ⟨B, HW⟩ := HW.exE
    obtain ⟨q, HW⟩ := HW.exE
    obtain ⟨⟨hq, rfl⟩, HW'⟩ := (Owns.allE (L := [_, _, _, _]) HW).pureE
    clear HW
    have HW := HW'
    clear HW'
    have kb3 : W.cell? ⟨B3, 0, none⟩ = some (.func (.func 20) #[] #[.pointer (some ⟨c, 0, none⟩)]) := (HW.mem (A := Asrt.obj B3 (.cells #[.func (.func 20) #[] #[.pointer (some ⟨c, 0, none⟩)]] 53 (0, 0))) (by simp)).cell (j := 0) rfl
    have kb2 : W.cell? ⟨B2, 0, none⟩ = some (.pointer (some ⟨j, 0, none⟩)) := (HW.mem (A := Asrt.obj B2 (.cells #[.pointer (some ⟨j, 0, none⟩)] 24 (0, 0))) (by simp)).cell (j := 0) rfl
    have hB : W.heap[B]? = some (.cells #[.int .i64 q.1, .int .i64 q.2] 29 (0, 0)) := HW.obj
    have kq0 := cell_of_heap hB (j := 0) rfl
    have kq1 := cell_of_heap hB (j := 1) rfl
    clear hB
    have Hq := Lib.hid hq
    have H5 := Lib.hid HW
    have kc : W.cell? ⟨c, 0, none⟩ = some (.int .i64 line) := (HW.mem (A := Asrt.obj c (.cells #[.int .i64 line, .int .i64 col] 29 (0, 0))) (by simp)).cell (j := 0) rfl
    have Hkp := Lib.hid (kpush c line q.1 q.2 W kc)
    clear HW hq kc
    gi_wp2_with fail
    refine in_round (Hkp.out.mono ?_)
    rintro e W2 ⟨rfl, hc⟩
    have h6 := H5.out.quiet hc
    clear Hkp kb3 kb2 kq0 kq1 hc
    have hKq : K q = (q.1 != line) := by rw [HK.out]
    have kb2 : W2.cell? ⟨B2, 0, none⟩ = some (.pointer (some ⟨j, 0, none⟩)) := (h6.mem (A := Asrt.obj B2 (.cells #[.pointer (some ⟨j, 0, none⟩)] 24 (0, 0))) (by simp)).cell (j := 0) rfl
    have kj0 : W2.cell? ⟨j, 0, none⟩ = some (.pointer (some ⟨v, 0, none⟩)) := h6.p1.cell (j := 0) rfl
    cases hkeep : (q.1 != line) with
    | true =>
      have hn := Lib.hid (show Owns w0 W2 (Asrt.all [jobj j v (dropAt K L at_ (k + 1) : Nat), posvec v (dropL K L (k + 1))] :: Z :: ([Asrt.obj B3 (.cells #[.func (.func 20) #[] #[.pointer (some ⟨c, 0, none⟩)]] 53 (0, 0)), Asrt.obj B2 (.cells #[.pointer (some ⟨j, 0, none⟩)] 24 (0, 0)), Asrt.obj c (.cells #[.int .i64 line, .int .i64 col] 29 (0, 0))] ++ R)) by
        rw [dropL_keep hk Hq.out (hKq.trans hkeep), dropAt_keep Hat.out hk Hq.out (hKq.trans hkeep)]
        exact Owns.allI (L := [_, _]) h6.drop)
      clear h6 hKq hkeep
      gi_wp2
      exact hn.out
    | false =>
      have hl := dropL_lt (K := K) hk
      have hll := dropL_len (K := K) (L := L) (k := k)
      have hnx := dropL_next hk Hq.out (hKq.trans hkeep)
      have hdel := o_delete_pos (L.length - 1 - k) 1 1 (h6.ord [2]) (poss_one _) hl (by decide) (by omega) (by omega) (by have := hb1.out; omega)
      rw [flat_take posf_len, flat_drop posf_len, ← flat_append, hnx] at hdel
      have Hdel := Lib.hid hdel
      have Hl := Lib.hid hl
      have Hnx := Lib.hid (dropAt_next Hat.out hk Hq.out (hKq.trans hkeep))
      have Hnl := Lib.hid (show (dropL K L (k + 1)).length = (dropL K L k).length - 1 by rw [← hnx]; simp; omega)
      clear h6 hKq hkeep hl hll hnx hdel
      gi_wp2_with fail
      refine in_round (Hdel.out.mono ?_)
      rintro e W3 ⟨d, rfl, h7⟩
      have h8 := (h7.p1.drop).ord [2]
      have kb2 : W3.cell? ⟨B2, 0, none⟩ = some (.pointer (some ⟨j, 0, none⟩)) := (h8.mem (A := Asrt.obj B2 (.cells #[.pointer (some ⟨j, 0, none⟩)] 24 (0, 0))) (by simp [ordL, takeAt])).cell (j := 0) rfl
      have kj1 : W3.cell? ⟨j, 1, none⟩ = some (.int .i64 (dropAt K L at_ k : Nat)) := h8.cell (j := 1) rfl
      have fj1 : W3.frozen? ⟨j, 1, none⟩ = false := h8.frozen 1
      have h9 : Owns w0 W3 (jobj j v (dropAt K L at_ k : Nat) :: posvec v (dropL K L (k + 1)) :: Z :: ([Asrt.obj B3 (.cells #[.func (.func 20) #[] #[.pointer (some ⟨c, 0, none⟩)]] 53 (0, 0)), Asrt.obj B2 (.cells #[.pointer (some ⟨j, 0, none⟩)] 24 (0, 0)), Asrt.obj c (.cells #[.int .i64 line, .int .i64 col] 29 (0, 0))] ++ R)) := by
        rw [posvec, Hnl.out]
        exact (h8.ord [2]).drop
      have hm : dropAt K L at_ k ≤ L.length := dropAt_le _ _ _ _ Hat.out
      have hLm : L.length ≤ 8796093022208 := by have := hb1.out; omega
      have Hm := Lib.hid (dropAt_le K L at_ (k + 1) Hat.out)
      have Hnx' := Hnx.out
      have H9 := Lib.hid h9
      have Hk := Lib.hid hk
      clear h7 h8 h9 Hdel Hnx hk
      generalize dropAt K L at_ k = m at *
      obtain ⟨ii, hii⟩ : ∃ ii, L.length - 1 - k = ii := ⟨_, rfl⟩
      rw [hii] at Hnx' ⊢
      have Hii := Lib.hid hii
      clear hii
      rcases Hnx' with ⟨hi, he⟩ | ⟨hi, he⟩
      · obtain ⟨m', rfl⟩ : ∃ m', m = m' + 1 := ⟨m - 1, by omega⟩
        have he' := Lib.hid (show dropAt K L at_ (k + 1) = m' by omega)
        have hiI : (ii : Int) < (m' : Int) + 1 := by omega
        rw [Int.natCast_add, Int.natCast_one] at kj1
        have h10 := Lib.hid (H9.out.set 1 (.int .i64 m'))
        clear he hi
        gi_wp2
        have := h10.out
        rw [roundOwn, he'.out]
        exact Owns.allI (L := [_, _]) h10.out
      · have hiI : ¬ ((ii : Int) < (m : Int)) := by omega
        have he' := Lib.hid he
        clear he hi
        gi_wp2
        rw [roundOwn, he'.out]
        exact Owns.allI (L := [_, _]) H9.out
  case done =>
    intro D W HW
    rw [dropL_all, dropAt_all, HK.out] at HW
    have HW' := Owns.allE (L := [_, _]) HW
    have H3 := Lib.hid HW'
    clear HW HW'
    go_wp2_with fail
    refine leaves_own [D] _ H3.out.p2 (fun w' hw' => ?_)
    exact ⟨.tuple #[], by simp [results, Try.f19, go_sem], rfl, ((hw'.ord [2]).drop.ord [2]).drop⟩
  case stop =>
    intro D cd W HW
    exact HW.pureE.1.elim
end
end Go.Proofs.Ytaekfmbfejgldaa
