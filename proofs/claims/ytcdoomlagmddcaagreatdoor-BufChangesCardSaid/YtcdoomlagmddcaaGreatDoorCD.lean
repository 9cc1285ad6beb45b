/- Cutting pieces: the walk, the vector's block named. -/
import Derived.Test.YtcdoomlagmddcaaGreatDoorCT
namespace Go.Proofs.YtcdoomlagmddcaaGreatDoor
open Go Go.RowKit Go.Fol
attribute [local go_sem ↓] Go.wp_at_zero Go.wp_at_succ
attribute [local go_sem] Oper.semAt_some
set_option linter.unusedVariables false
set_option linter.unusedSimpArgs false
set_option maxRecDepth 100000
section
variable {w0 w : World} {R : List Asrt}
set_option maxHeartbeats 4000000 in
set_option maxRecDepth 100000 in
theorem ccutv {p v : Nat} {aa : Option Addr} {ac : Nat} {T : Tb} (off : Nat) (h : Owns w0 w (tobj p v T aa ac :: brow aa ac T.added :: pcvec v T.L :: R)) (hT : T.ok) (ho : off ≤ T.size) :
    Calls Tryz.prog 76 #[.pointer (some ⟨p, 0, none⟩), .int .i64 off] w
      (RetX (fun x : Nat × List Pc => .int .i64 x.1) w0 (fun x => Asrt.pure (CutR T.first T.added T.L off x.1 x.2) :: tobj p v T aa ac :: brow aa ac T.added :: pcvec v x.2 :: R)) := by
  obtain ⟨f, a, L, size, most, edits⟩ := T
  obtain ⟨hok, hsz, hfl, hal, hll, hed, hsm, hmost⟩ := hT
  dsimp only [Tb.tx] at *
  obtain ⟨n, hn⟩ : ∃ n, n = L.length := ⟨_, rfl⟩
  have hend := begins_all f a L
  rw [← hsz, ← hn] at hend
  have Hend := Lib.hid hend
  have Hok := Lib.hid hok
  have Hn := Lib.hid hn
  rw [← hn] at hll
  obtain ⟨b2, hb2⟩ : ∃ b, b = w.heap.size := ⟨_, rfl⟩
  obtain ⟨b3, hb3⟩ : ∃ b, b = b2 + 1 := ⟨_, rfl⟩
  obtain ⟨b4, hb4⟩ : ∃ b, b = b3 + 1 := ⟨_, rfl⟩
  obtain ⟨b5, hb5⟩ : ∃ b, b = b4 + 1 := ⟨_, rfl⟩
  obtain ⟨W1, hW1⟩ : ∃ W1, (((w.alloc (.cells #[.pointer (some ⟨p, 0, none⟩)] 54)).alloc (.cells #[.int .i64 off] 3)).alloc (.cells #[.int .i64 0] 3)).alloc (.cells #[.int .i64 0] 3) = W1 := ⟨_, rfl⟩
  have h1 := (((h.alloc #[.pointer (some ⟨p, 0, none⟩)] 54).alloc #[.int .i64 off] 3).alloc #[.int .i64 0] 3).alloc #[.int .i64 0] 3
  rw [hW1] at h1
  simp only [World.size_alloc] at h1
  rw [← hb2, ← hb3, ← hb4, ← hb5] at h1
  have k2 : W1.cell? ⟨b2, 0, none⟩ = some (.pointer (some ⟨p, 0, none⟩)) := (h1.ord [3]).cell (j := 0) rfl
  have kp : W1.cell? ⟨p, 2, none⟩ = some (.pointer (some ⟨v, 0, none⟩)) := (h1.ord [4]).cell (j := 2) rfl
  have H1 := Lib.hid h1
  have HW1 := Lib.hid hW1
  have B2 := Lib.hid hb2
  have B3 := Lib.hid hb3
  have B4 := Lib.hid hb4
  have B5 := Lib.hid hb5
  clear h h1 hW1 hb2 hb3 hb4 hb5 hok hn hend hsz
  refine calls_of_wp_marks Tryz.func76 rfl ?_
  simp only [Tryz.ntmps76, List.size_toArray, List.length_cons, List.length_nil, Nat.reduceAdd, Nat.reduceSub, Array.replicate_succ, Array.replicate_zero, List.push_toArray, List.append_toArray, List.nil_append, List.cons_append]
  go_upto_region 2 with (fail)
  rw [HW1.out, ← B2.out, ← B3.out, ← B4.out, ← B5.out]
  go_wp2_with fail
  refine (o_all_pc (H1.out.ord [6]) (pcs_one L) (by have := Hn.out; omega)).mono ?_
  rintro e w1 ⟨b, rfl, h2⟩
  obtain ⟨S, hseq, h3⟩ := o_seq_all_pc h2 (are_pcs L)
  rw [← Hn.out] at hseq
  have H3 := Lib.hid h3
  have Hseq := Lib.hid hseq
  clear h2 h3 hseq k2 kp H1 HW1 B2 B3 B4 B5
  go_wp2_with fail
  refine wp_range_own2 (gf := 99) (lb := #[.pointer (some ⟨b, 0, none⟩)]) rfl (enters_fn Tryz.func99 (by kernel_rfl) rfl) Hseq.out (fun _ => rfl) (w0 := w0)
    (R := Asrt.obj b3 (.cells #[.int .i64 off] 3 (0, 0)) :: Asrt.obj b2 (.cells #[.pointer (some ⟨p, 0, none⟩)] 54 (0, 0)) :: tobj p v ⟨f, a, L, size, most, edits⟩ aa ac :: brow aa ac a :: R)
    (fun k => Asrt.all [Asrt.pure (begins f a L k ≤ off), Asrt.obj b5 (.cells #[.int .i64 (begins f a L k)] 3 (0, 0)), Asrt.obj b4 (.cells #[.int .i64 0] 3 (0, 0)), pcvec v L])
    (fun k a' => Asrt.ex fun C : Nat => Asrt.ex fun q : Pc => Asrt.all [Asrt.pure (begins f a L k ≤ off ∧ L[k]? = some q ∧ a' = { tmps := #[.pointer (some ⟨p, 0, none⟩), .int .i64 off, .pointer (some ⟨b2, 0, none⟩), .pointer (some ⟨b3, 0, none⟩), .pointer (some ⟨b4, 0, none⟩), .pointer (some ⟨b5, 0, none⟩), .int .i64 (k : Int), .pointer (some ⟨C, 0, none⟩), undef, .pointer (some ⟨p, 0, none⟩), .pointer (some ⟨p, 0, none⟩), .pointer (some ⟨p, 2, none⟩), .pointer (some ⟨v, 0, none⟩), .func (.func 99) #[] #[.pointer (some ⟨b, 0, none⟩)], .int .i64 (k : Int), .agg #[.bool q.ad, .int .i64 q.off, .int .i64 q.n], undef, undef, undef, undef, undef, undef, undef, undef, undef, undef, undef, undef, undef, undef, undef, undef, undef, undef, undef, undef, undef, undef, undef, undef, undef, undef, undef, undef, undef, undef, undef, undef, undef, undef, undef, undef, undef, undef, undef, undef, undef, undef, undef, undef, undef, undef, undef, undef, undef, undef, undef, undef, undef, undef, undef, undef, undef], defers := [] }), Asrt.obj C (.cells #[.bool q.ad, .int .i64 q.off, .int .i64 q.n] 87 (0, 0)), Asrt.obj b5 (.cells #[.int .i64 (begins f a L k)] 3 (0, 0)), Asrt.obj b4 (.cells #[.int .i64 0] 3 (0, 0)), pcvec v L])
    (fun c => Asrt.ex fun i : Nat => Asrt.ex fun L' : List Pc => Asrt.all [Asrt.pure (c = .ret ∧ CutR f a L off i L'), Asrt.obj b4 (.cells #[.int .i64 i] 3 (0, 0)), pcvec v L']) ?start ?assign ?body ?done ?stop
  case start =>
    exact Owns.allI (L := [_, _, _, _]) (Owns.pureI ((H3.out).ord [2, 2, 1, 0]) (Nat.zero_le _))
  case assign =>
    intro l k W Kk Z hk HW hkk
    obtain ⟨q, hq⟩ : ∃ q, L[k]? = some q := ⟨_, List.getElem?_eq_getElem (by have := Hn.out; omega)⟩
    have hg := pcs_get hq
    have e0 : (pcs L)[k * 3]?.getD undef = .bool q.ad := by rw [hg.1]; rfl
    have e1 : (pcs L)[k * 3 + 1]?.getD undef = .int .i64 q.off := by rw [hg.2.1]; rfl
    have e2 : (pcs L)[k * 3 + 2]?.getD undef = .int .i64 q.n := by rw [hg.2.2]; rfl
    simp only [e0, e1, e2]
    obtain ⟨hbe, HW⟩ := (Owns.allE (L := [_, _, _, _]) HW).pureE
    have HW1 := Lib.hid HW
    have Hq := Lib.hid hq
    have Hkk := Lib.hid hkk
    have Hbe := Lib.hid hbe
    clear hg e0 e1 e2 HW hq hkk hbe
    gi_wp2
    exact Hkk.out _ _ (Owns.exI W.heap.size (Owns.exI q (Owns.allI (L := [_, _, _, _, _]) (Owns.pureI (HW1.out.alloc _ _) ⟨Hbe.out, Hq.out, rfl⟩))))
  case body =>
    intro l k a' W Z hk HW
    obtain ⟨C, HW⟩ := HW.exE
    obtain ⟨q, HW⟩ := HW.exE
    obtain ⟨⟨hbe, hq, rfl⟩, HW'⟩ := (Owns.allE (L := [_, _, _, _, _]) HW).pureE
    obtain ⟨S0, hS0⟩ : ∃ S0, S0 = begins f a L k := ⟨_, rfl⟩
    rw [← hS0] at HW' hbe
    have hqo := Hok.out q (List.mem_of_getElem? hq)
    have hsu := begins_succ hq hqo
    rw [← hS0] at hsu
    obtain ⟨ad, qo, qn⟩ := q
    dsimp only at *
    have c0 : W.cell? ⟨C, 0, none⟩ = some (.bool ad) := HW'.cell (j := 0) rfl
    have c1 : W.cell? ⟨C, 1, none⟩ = some (.int .i64 qo) := HW'.cell (j := 1) rfl
    have c2 : W.cell? ⟨C, 2, none⟩ = some (.int .i64 qn) := HW'.cell (j := 2) rfl
    have d5 : W.cell? ⟨b5, 0, none⟩ = some (.int .i64 S0) := (HW'.ord [1]).cell (j := 0) rfl
    have g5 : W.frozen? ⟨b5, 0, none⟩ = false := (HW'.ord [1]).frozen 0
    have d4 : W.cell? ⟨b4, 0, none⟩ = some (.int .i64 0) := (HW'.ord [2]).cell (j := 0) rfl
    have g4 : W.frozen? ⟨b4, 0, none⟩ = false := (HW'.ord [2]).frozen 0
    have d3 : W.cell? ⟨b3, 0, none⟩ = some (.int .i64 off) := (HW'.ord [5]).cell (j := 0) rfl
    have d2 : W.cell? ⟨b2, 0, none⟩ = some (.pointer (some ⟨p, 0, none⟩)) := (HW'.ord [6]).cell (j := 0) rfl
    have dp : W.cell? ⟨p, 2, none⟩ = some (.pointer (some ⟨v, 0, none⟩)) := (HW'.ord [7]).cell (j := 2) rfl
    have hqb := hqo.2
    have hqn := hqo.1
    have hqsm : qo + qn ≤ 100000 := by dsimp only at hqb; split at hqb <;> omega
    have H5 := Lib.hid HW'
    have Hq := Lib.hid hq
    have HS0 := Lib.hid hS0
    have Hsu := Lib.hid hsu
    clear HW HW' hq hS0 hsu hqo hqb
    by_cases hat : S0 = off
    · subst hat
      have hres := ((H5.out.ord [2]).set 0 (.int .i64 (k : Int))).ord [1, 1]
      have Hres := Lib.hid hres.drop.drop
      have hcs := cut_same Hok.out (k := k) (off := S0) (by have := Hn.out; omega) HS0.out.symm
      clear hres
      gi_wp2_with fail
      show Owns w0 _ ((Asrt.ex fun i : Nat => Asrt.ex fun L' : List Pc => Asrt.all [Asrt.pure (Code.ret = .ret ∧ CutR f a L S0 i L'), Asrt.obj b4 (.cells #[.int .i64 i] 3 (0, 0)), pcvec v L']) :: Z :: _)
      exact Owns.exI k (Owns.exI L (Owns.allI (L := [_, _, _]) (Owns.pureI Hres.out ⟨rfl, hcs⟩)))
    · have hat' : ((S0 : Int) == (off : Int)) = false := by simp; omega
      by_cases hin : off < S0 + qn
      · have hin' : (off : Int) < (S0 : Int) + qn := by omega
        obtain ⟨m, hm⟩ : ∃ m : Nat, (off : Int) - S0 = (m : Int) := ⟨off - S0, by omega⟩
        obtain ⟨r, hr⟩ : ∃ r : Nat, (qn : Int) - m = (r : Int) := ⟨qn - m, by omega⟩
        have hm0 : 0 < m := by omega
        have hmq : m < qn := by omega
        have hkL : k < L.length := by have := Hn.out; omega
        have hcp := cut_part Hok.out Hq.out (m := m) (off := off) (by rw [← HS0.out]; omega) hm0 hmq
        have hset := o_set_pc k ad qo m (H5.out.drew.ord [3]) hkL
        have Hset := Lib.hid hset
        have Hcp := Lib.hid hcp
        have hw1 : IntKind.i64.wrap ((k : Int) + 1) = (k : Int) + 1 := by rw [IntKind.wrap_i64]; omega
        have hw2 : IntKind.i64.wrap ((qo : Int) + m) = (qo : Int) + m := by rw [IntKind.wrap_i64]; omega
        have hw3 : IntKind.i64.wrap (r : Int) = (r : Int) := by rw [IntKind.wrap_i64]; omega
        have hw4 : IntKind.i64.wrap ((qn : Int) - m) = (r : Int) := by rw [hr, hw3]
        clear hset hcp hat
        gi_wp2_with fail
        refine wpIn_region_held_round (S := (fun w' => w'.cell? ⟨b2, 0, none⟩ = some (.pointer (some ⟨p, 0, none⟩)) ∧ w'.cell? ⟨p, 2, none⟩ = some (.pointer (some ⟨v, 0, none⟩)) ∧ w'.cell? ⟨C, 0, none⟩ = some (.bool ad) ∧ w'.cell? ⟨C, 1, none⟩ = some (.int .i64 qo) ∧ w'.cell? ⟨C, 2, none⟩ = some (.int .i64 qn))) (by kernel_rfl) (by rfl) ⟨d2, dp, c0, c1, c2⟩ (fun hS0 => ?_)
        refine wpAnyH_take (i := 0) (oi := _) (v := .pointer (some ⟨p, 0, none⟩)) rfl (by kernel_rfl) (by kernel_rfl) (by kernel_rfl) (fun _ _ _ h => h) (Or.inl ⟨by rfl, fun w hSw => ?_⟩) hS0 ?_
        · obtain ⟨x0, x1, x2, x3, x4⟩ := hSw; go_simp
        try simp only [Act.put, List.setIfInBounds_toArray, List.set_cons_zero, List.set_cons_succ, List.getElem_toArray, List.getElem_cons_zero, List.getElem_cons_succ]
        refine wpAnyH_take (i := 1) (oi := _) (v := .pointer (some ⟨p, 0, none⟩)) rfl (by kernel_rfl) (by kernel_rfl) (by kernel_rfl) (fun _ _ _ h => h) (Or.inl ⟨by rfl, fun w hSw => ?_⟩) hS0 ?_
        · obtain ⟨x0, x1, x2, x3, x4⟩ := hSw; go_simp
        try simp only [Act.put, List.setIfInBounds_toArray, List.set_cons_zero, List.set_cons_succ, List.getElem_toArray, List.getElem_cons_zero, List.getElem_cons_succ]
        refine wpAnyH_take (i := 2) (oi := _) (v := .pointer (some ⟨p, 2, none⟩)) rfl (by kernel_rfl) (by kernel_rfl) (by kernel_rfl) (fun _ _ _ h => h) (Or.inl ⟨by rfl, fun w hSw => ?_⟩) hS0 ?_
        · obtain ⟨x0, x1, x2, x3, x4⟩ := hSw; go_simp
        try simp only [Act.put, List.setIfInBounds_toArray, List.set_cons_zero, List.set_cons_succ, List.getElem_toArray, List.getElem_cons_zero, List.getElem_cons_succ]
        refine wpAnyH_take (i := 3) (oi := _) (v := .pointer (some ⟨v, 0, none⟩)) rfl (by kernel_rfl) (by kernel_rfl) (by kernel_rfl) (fun _ _ _ h => h) (Or.inl ⟨by rfl, fun w hSw => ?_⟩) hS0 ?_
        · obtain ⟨x0, x1, x2, x3, x4⟩ := hSw; go_simp
        try simp only [Act.put, List.setIfInBounds_toArray, List.set_cons_zero, List.set_cons_succ, List.getElem_toArray, List.getElem_cons_zero, List.getElem_cons_succ]
        refine wpAnyH_take (i := 4) (oi := _) (v := .int .i64 (k : Int)) rfl (by kernel_rfl) (by kernel_rfl) (by kernel_rfl) (fun _ _ _ h => h) (Or.inl ⟨by rfl, fun w hSw => ?_⟩) hS0 ?_
        · obtain ⟨x0, x1, x2, x3, x4⟩ := hSw; go_simp
        try simp only [Act.put, List.setIfInBounds_toArray, List.set_cons_zero, List.set_cons_succ, List.getElem_toArray, List.getElem_cons_zero, List.getElem_cons_succ]
        refine wpAnyH_take (i := 5) (oi := _) (v := .pointer (some ⟨C, 0, none⟩)) rfl (by kernel_rfl) (by kernel_rfl) (by kernel_rfl) (fun _ _ _ h => h) (Or.inl ⟨by rfl, fun w hSw => ?_⟩) hS0 ?_
        · obtain ⟨x0, x1, x2, x3, x4⟩ := hSw; go_simp
        try simp only [Act.put, List.setIfInBounds_toArray, List.set_cons_zero, List.set_cons_succ, List.getElem_toArray, List.getElem_cons_zero, List.getElem_cons_succ]
        refine wpAnyH_take (i := 6) (oi := _) (v := .bool ad) rfl (by kernel_rfl) (by kernel_rfl) (by kernel_rfl) (fun _ _ _ h => h) (Or.inl ⟨by rfl, fun w hSw => ?_⟩) hS0 ?_
        · obtain ⟨x0, x1, x2, x3, x4⟩ := hSw; go_simp
        try simp only [Act.put, List.setIfInBounds_toArray, List.set_cons_zero, List.set_cons_succ, List.getElem_toArray, List.getElem_cons_zero, List.getElem_cons_succ]
        refine wpAnyH_take (i := 7) (oi := _) (v := .pointer (some ⟨C, 1, none⟩)) rfl (by kernel_rfl) (by kernel_rfl) (by kernel_rfl) (fun _ _ _ h => h) (Or.inl ⟨by rfl, fun w hSw => ?_⟩) hS0 ?_
        · obtain ⟨x0, x1, x2, x3, x4⟩ := hSw; go_simp
        try simp only [Act.put, List.setIfInBounds_toArray, List.set_cons_zero, List.set_cons_succ, List.getElem_toArray, List.getElem_cons_zero, List.getElem_cons_succ]
        refine wpAnyH_take (i := 8) (oi := _) (v := .int .i64 qo) rfl (by kernel_rfl) (by kernel_rfl) (by kernel_rfl) (fun _ _ _ h => h) (Or.inl ⟨by rfl, fun w hSw => ?_⟩) hS0 ?_
        · obtain ⟨x0, x1, x2, x3, x4⟩ := hSw; go_simp
        try simp only [Act.put, List.setIfInBounds_toArray, List.set_cons_zero, List.set_cons_succ, List.getElem_toArray, List.getElem_cons_zero, List.getElem_cons_succ]
        refine wpAnyH_take (i := 9) (oi := _) (v := .int .i64 (m : Int)) rfl (by kernel_rfl) (by kernel_rfl) (by kernel_rfl) (fun _ _ _ h => h) (Or.inl ⟨by rfl, fun w hSw => ?_⟩) hS0 ?_
        · obtain ⟨x0, x1, x2, x3, x4⟩ := hSw; go_simp
        try simp only [Act.put, List.setIfInBounds_toArray, List.set_cons_zero, List.set_cons_succ, List.getElem_toArray, List.getElem_cons_zero, List.getElem_cons_succ]
        refine wpAnyH_take (i := 10) (oi := _) (v := .agg #[.bool ad, .int .i64 qo, .int .i64 (m : Int)]) rfl (by kernel_rfl) (by kernel_rfl) (by kernel_rfl) (fun _ _ _ h => h) (Or.inl ⟨by rfl, fun w hSw => ?_⟩) hS0 ?_
        · obtain ⟨x0, x1, x2, x3, x4⟩ := hSw; go_simp
        try simp only [Act.put, List.setIfInBounds_toArray, List.set_cons_zero, List.set_cons_succ, List.getElem_toArray, List.getElem_cons_zero, List.getElem_cons_succ]
        refine wpAnyH_ready (rs := [11]) (by kernel_rfl) (by simp) (AllReadyH.cons (o := _) rfl (fun K' hK => ?_) AllReadyH.nil)
        simp only [List.getElem_toArray, List.getElem_cons_zero, List.getElem_cons_succ]
        rw [if_pos (by rfl)]
        go_simp
        refine Hset.out.mono ?_
        rintro e w2 ⟨rfl, h6⟩
        rw [pcs_set L k ad qo m hkL] at h6
        refine hK.out _ _ ⟨(h6.ord [6]).cell (j := 0) rfl, (h6.ord [7]).cell (j := 2) rfl, (h6.ord [1]).cell (j := 0) rfl, (h6.ord [1]).cell (j := 1) rfl, (h6.ord [1]).cell (j := 2) rfl⟩ (fun hS1 => ?_)
        clear hK K' hS0
        have H6 := Lib.hid h6
        clear h6 Hset
        try simp only [Act.put, List.setIfInBounds_toArray, List.set_cons_zero, List.set_cons_succ, List.getElem_toArray, List.getElem_cons_zero, List.getElem_cons_succ]
        refine wpAnyH_done (by kernel_rfl) ?_ _
        dsimp only [Whole]
        have h7 : Owns w0 w2 (pcvec v (L.set k ⟨ad, qo, m⟩) :: Asrt.obj C (.cells #[.bool ad, .int .i64 qo, .int .i64 qn] 87 (0, 0)) :: Asrt.obj b5 (.cells #[.int .i64 S0] 3 (0, 0)) :: Asrt.obj b4 (.cells #[.int .i64 0] 3 (0, 0)) :: Z :: Asrt.obj b3 (.cells #[.int .i64 off] 3 (0, 0)) :: Asrt.obj b2 (.cells #[.pointer (some ⟨p, 0, none⟩)] 54 (0, 0)) :: tobj p v ⟨f, a, L, size, most, edits⟩ aa ac :: brow aa ac a :: R) := by rw [pcvec, List.length_set]; exact H6.out
        have d2' := (h7.drew.ord [6]).cell (j := 0) rfl
        have dp' := (h7.drew.ord [7]).cell (j := 2) rfl
        have c0' := (h7.drew.ord [1]).cell (j := 0) rfl
        have c1' := (h7.drew.ord [1]).cell (j := 1) rfl
        have c2' := (h7.drew.ord [1]).cell (j := 2) rfl
        have hlen : (L.set k ⟨ad, qo, m⟩).length = n := by rw [List.length_set]; exact Hn.out.symm
        have hins := o_insert_pc (k + 1) (.slice (some ⟨w2.heap.size, 0, none⟩) 1 1) [.bool ad, .int .i64 ((qo : Int) + m), .int .i64 (r : Int)] (m := 1) ((h7.drew.alloc #[.bool ad, .int .i64 ((qo : Int) + m), .int .i64 (r : Int)] 87).p1) (Reads.obj (b := w2.heap.size) (k := 3) (n := 1) (t := 87) (f := (0, 0)) (cs := #[.bool ad, .int .i64 ((qo : Int) + m), .int .i64 (r : Int)]) (by simp) (by decide) (by decide) (by simp)) (pcs_one _) (by simp [Value.oneCell']) (by omega) (by omega)
        rw [show ((k + 1 : Nat) : Int) = (k : Int) + 1 from by omega] at hins
        have H7 := Lib.hid h7.drew
        have Hins := Lib.hid hins
        clear h7 hins H6 d2 dp c0 c1 c2 d5 d4 d3 hS1
        gi_wp2_with fail
        refine wpIn_region_held_round (S := (fun w' => w'.cell? ⟨b2, 0, none⟩ = some (.pointer (some ⟨p, 0, none⟩)) ∧ w'.cell? ⟨p, 2, none⟩ = some (.pointer (some ⟨v, 0, none⟩)) ∧ w'.cell? ⟨C, 0, none⟩ = some (.bool ad) ∧ w'.cell? ⟨C, 1, none⟩ = some (.int .i64 qo) ∧ w'.cell? ⟨C, 2, none⟩ = some (.int .i64 qn))) (by kernel_rfl) (by rfl) ⟨d2', dp', c0', c1', c2'⟩ (fun hS0 => ?_)
        refine wpAnyH_take (i := 0) (oi := _) (v := .pointer (some ⟨p, 0, none⟩)) rfl (by kernel_rfl) (by kernel_rfl) (by kernel_rfl) (fun _ _ _ h => h) (Or.inl ⟨by rfl, fun w hSw => ?_⟩) hS0 ?_
        · obtain ⟨x0, x1, x2, x3, x4⟩ := hSw; go_simp
        try simp only [Act.put, List.setIfInBounds_toArray, List.set_cons_zero, List.set_cons_succ, List.getElem_toArray, List.getElem_cons_zero, List.getElem_cons_succ]
        refine wpAnyH_take (i := 1) (oi := _) (v := .pointer (some ⟨p, 0, none⟩)) rfl (by kernel_rfl) (by kernel_rfl) (by kernel_rfl) (fun _ _ _ h => h) (Or.inl ⟨by rfl, fun w hSw => ?_⟩) hS0 ?_
        · obtain ⟨x0, x1, x2, x3, x4⟩ := hSw; go_simp
        try simp only [Act.put, List.setIfInBounds_toArray, List.set_cons_zero, List.set_cons_succ, List.getElem_toArray, List.getElem_cons_zero, List.getElem_cons_succ]
        refine wpAnyH_take (i := 2) (oi := _) (v := .pointer (some ⟨p, 2, none⟩)) rfl (by kernel_rfl) (by kernel_rfl) (by kernel_rfl) (fun _ _ _ h => h) (Or.inl ⟨by rfl, fun w hSw => ?_⟩) hS0 ?_
        · obtain ⟨x0, x1, x2, x3, x4⟩ := hSw; go_simp
        try simp only [Act.put, List.setIfInBounds_toArray, List.set_cons_zero, List.set_cons_succ, List.getElem_toArray, List.getElem_cons_zero, List.getElem_cons_succ]
        refine wpAnyH_take (i := 3) (oi := _) (v := .pointer (some ⟨v, 0, none⟩)) rfl (by kernel_rfl) (by kernel_rfl) (by kernel_rfl) (fun _ _ _ h => h) (Or.inl ⟨by rfl, fun w hSw => ?_⟩) hS0 ?_
        · obtain ⟨x0, x1, x2, x3, x4⟩ := hSw; go_simp
        try simp only [Act.put, List.setIfInBounds_toArray, List.set_cons_zero, List.set_cons_succ, List.getElem_toArray, List.getElem_cons_zero, List.getElem_cons_succ]
        refine wpAnyH_take (i := 4) (oi := _) (v := .int .i64 (k : Int)) rfl (by kernel_rfl) (by kernel_rfl) (by kernel_rfl) (fun _ _ _ h => h) (Or.inl ⟨by rfl, fun w hSw => ?_⟩) hS0 ?_
        · obtain ⟨x0, x1, x2, x3, x4⟩ := hSw; go_simp
        try simp only [Act.put, List.setIfInBounds_toArray, List.set_cons_zero, List.set_cons_succ, List.getElem_toArray, List.getElem_cons_zero, List.getElem_cons_succ]
        refine wpAnyH_take (i := 5) (oi := _) (v := .int .i64 ((k : Int) + 1)) rfl (by kernel_rfl) (by kernel_rfl) (by kernel_rfl) (fun _ _ _ h => h) (Or.inl ⟨by rfl, fun w hSw => ?_⟩) hS0 ?_
        · obtain ⟨x0, x1, x2, x3, x4⟩ := hSw; go_simp
        try simp only [Act.put, List.setIfInBounds_toArray, List.set_cons_zero, List.set_cons_succ, List.getElem_toArray, List.getElem_cons_zero, List.getElem_cons_succ]
        refine wpAnyH_take (i := 6) (oi := _) (v := .pointer (some ⟨C, 0, none⟩)) rfl (by kernel_rfl) (by kernel_rfl) (by kernel_rfl) (fun _ _ _ h => h) (Or.inl ⟨by rfl, fun w hSw => ?_⟩) hS0 ?_
        · obtain ⟨x0, x1, x2, x3, x4⟩ := hSw; go_simp
        try simp only [Act.put, List.setIfInBounds_toArray, List.set_cons_zero, List.set_cons_succ, List.getElem_toArray, List.getElem_cons_zero, List.getElem_cons_succ]
        refine wpAnyH_take (i := 7) (oi := _) (v := .bool ad) rfl (by kernel_rfl) (by kernel_rfl) (by kernel_rfl) (fun _ _ _ h => h) (Or.inl ⟨by rfl, fun w hSw => ?_⟩) hS0 ?_
        · obtain ⟨x0, x1, x2, x3, x4⟩ := hSw; go_simp
        try simp only [Act.put, List.setIfInBounds_toArray, List.set_cons_zero, List.set_cons_succ, List.getElem_toArray, List.getElem_cons_zero, List.getElem_cons_succ]
        refine wpAnyH_take (i := 8) (oi := _) (v := .pointer (some ⟨C, 1, none⟩)) rfl (by kernel_rfl) (by kernel_rfl) (by kernel_rfl) (fun _ _ _ h => h) (Or.inl ⟨by rfl, fun w hSw => ?_⟩) hS0 ?_
        · obtain ⟨x0, x1, x2, x3, x4⟩ := hSw; go_simp
        try simp only [Act.put, List.setIfInBounds_toArray, List.set_cons_zero, List.set_cons_succ, List.getElem_toArray, List.getElem_cons_zero, List.getElem_cons_succ]
        refine wpAnyH_take (i := 9) (oi := _) (v := .int .i64 qo) rfl (by kernel_rfl) (by kernel_rfl) (by kernel_rfl) (fun _ _ _ h => h) (Or.inl ⟨by rfl, fun w hSw => ?_⟩) hS0 ?_
        · obtain ⟨x0, x1, x2, x3, x4⟩ := hSw; go_simp
        try simp only [Act.put, List.setIfInBounds_toArray, List.set_cons_zero, List.set_cons_succ, List.getElem_toArray, List.getElem_cons_zero, List.getElem_cons_succ]
        refine wpAnyH_take (i := 10) (oi := _) (v := .int .i64 (m : Int)) rfl (by kernel_rfl) (by kernel_rfl) (by kernel_rfl) (fun _ _ _ h => h) (Or.inl ⟨by rfl, fun w hSw => ?_⟩) hS0 ?_
        · obtain ⟨x0, x1, x2, x3, x4⟩ := hSw; go_simp
        try simp only [Act.put, List.setIfInBounds_toArray, List.set_cons_zero, List.set_cons_succ, List.getElem_toArray, List.getElem_cons_zero, List.getElem_cons_succ]
        refine wpAnyH_take (i := 11) (oi := _) (v := .int .i64 ((qo : Int) + m)) rfl (by kernel_rfl) (by kernel_rfl) (by kernel_rfl) (fun _ _ _ h => h) (Or.inl ⟨by rfl, fun w hSw => ?_⟩) hS0 ?_
        · obtain ⟨x0, x1, x2, x3, x4⟩ := hSw; go_simp
        try simp only [Act.put, List.setIfInBounds_toArray, List.set_cons_zero, List.set_cons_succ, List.getElem_toArray, List.getElem_cons_zero, List.getElem_cons_succ]
        refine wpAnyH_take (i := 12) (oi := _) (v := .pointer (some ⟨C, 2, none⟩)) rfl (by kernel_rfl) (by kernel_rfl) (by kernel_rfl) (fun _ _ _ h => h) (Or.inl ⟨by rfl, fun w hSw => ?_⟩) hS0 ?_
        · obtain ⟨x0, x1, x2, x3, x4⟩ := hSw; go_simp
        try simp only [Act.put, List.setIfInBounds_toArray, List.set_cons_zero, List.set_cons_succ, List.getElem_toArray, List.getElem_cons_zero, List.getElem_cons_succ]
        refine wpAnyH_take (i := 13) (oi := _) (v := .int .i64 qn) rfl (by kernel_rfl) (by kernel_rfl) (by kernel_rfl) (fun _ _ _ h => h) (Or.inl ⟨by rfl, fun w hSw => ?_⟩) hS0 ?_
        · obtain ⟨x0, x1, x2, x3, x4⟩ := hSw; go_simp
        try simp only [Act.put, List.setIfInBounds_toArray, List.set_cons_zero, List.set_cons_succ, List.getElem_toArray, List.getElem_cons_zero, List.getElem_cons_succ]
        refine wpAnyH_take (i := 14) (oi := _) (v := .int .i64 (m : Int)) rfl (by kernel_rfl) (by kernel_rfl) (by kernel_rfl) (fun _ _ _ h => h) (Or.inl ⟨by rfl, fun w hSw => ?_⟩) hS0 ?_
        · obtain ⟨x0, x1, x2, x3, x4⟩ := hSw; go_simp
        try simp only [Act.put, List.setIfInBounds_toArray, List.set_cons_zero, List.set_cons_succ, List.getElem_toArray, List.getElem_cons_zero, List.getElem_cons_succ]
        refine wpAnyH_take (i := 15) (oi := _) (v := .int .i64 (r : Int)) rfl (by kernel_rfl) (by kernel_rfl) (by kernel_rfl) (fun _ _ _ h => h) (Or.inl ⟨by rfl, fun w hSw => ?_⟩) hS0 ?_
        · obtain ⟨x0, x1, x2, x3, x4⟩ := hSw; go_simp
        try simp only [Act.put, List.setIfInBounds_toArray, List.set_cons_zero, List.set_cons_succ, List.getElem_toArray, List.getElem_cons_zero, List.getElem_cons_succ]
        refine wpAnyH_take (i := 16) (oi := _) (v := .agg #[.bool ad, .int .i64 ((qo : Int) + m), .int .i64 (r : Int)]) rfl (by kernel_rfl) (by kernel_rfl) (by kernel_rfl) (fun _ _ _ h => h) (Or.inl ⟨by rfl, fun w hSw => ?_⟩) hS0 ?_
        · obtain ⟨x0, x1, x2, x3, x4⟩ := hSw; go_simp
        try simp only [Act.put, List.setIfInBounds_toArray, List.set_cons_zero, List.set_cons_succ, List.getElem_toArray, List.getElem_cons_zero, List.getElem_cons_succ]
        refine wpAnyH_ready (rs := [17]) (by kernel_rfl) (by simp) (AllReadyH.cons (o := _) rfl (fun K' hK => ?_) AllReadyH.nil)
        simp only [List.getElem_toArray, List.getElem_cons_zero, List.getElem_cons_succ]
        rw [if_pos (by rfl)]
        go_simp
        have h8 := H7.out.alloc #[.bool ad, .int .i64 ((qo : Int) + m), .int .i64 (r : Int)] 87
        refine hK.out _ _ ⟨(h8.ord [7]).cell (j := 0) rfl, (h8.ord [8]).cell (j := 2) rfl, (h8.ord [2]).cell (j := 0) rfl, (h8.ord [2]).cell (j := 1) rfl, (h8.ord [2]).cell (j := 2) rfl⟩ (fun hS1 => ?_)
        clear hK K' hS0
        clear h8
        try simp only [Act.put, List.setIfInBounds_toArray, List.set_cons_zero, List.set_cons_succ, List.getElem_toArray, List.getElem_cons_zero, List.getElem_cons_succ]
        refine wpAnyH_ready (rs := [18]) (by kernel_rfl) (by simp) (AllReadyH.cons (o := _) rfl (fun K' hK => ?_) AllReadyH.nil)
        simp only [List.getElem_toArray, List.getElem_cons_zero, List.getElem_cons_succ]
        rw [if_pos (by rfl)]
        go_simp
        refine Hins.out.mono ?_
        rintro e w4 ⟨rfl, h9⟩
        refine hK.out _ _ ⟨(h9.ord [7]).cell (j := 0) rfl, (h9.ord [8]).cell (j := 2) rfl, (h9.ord [2]).cell (j := 0) rfl, (h9.ord [2]).cell (j := 1) rfl, (h9.ord [2]).cell (j := 2) rfl⟩ (fun hS2 => ?_)
        clear hK K' hS1
        have H9 := Lib.hid h9
        clear h9 Hins
        try simp only [Act.put, List.setIfInBounds_toArray, List.set_cons_zero, List.set_cons_succ, List.getElem_toArray, List.getElem_cons_zero, List.getElem_cons_succ]
        refine wpAnyH_done (by kernel_rfl) ?_ _
        dsimp only [Whole]
        have hx : (pcs (L.set k ⟨ad, qo, m⟩)).take ((k + 1) * 3) ++ [.bool ad, .int .i64 ((qo : Int) + m), .int .i64 (r : Int)] ++ (pcs (L.set k ⟨ad, qo, m⟩)).drop ((k + 1) * 3) = pcs (((L.set k ⟨ad, qo, m⟩).take (k + 1) ++ [⟨ad, qo + m, qn - m⟩]) ++ (L.set k ⟨ad, qo, m⟩).drop (k + 1)) := by
          rw [pcs_append, pcs_append, flat_take pcf_len, flat_drop pcf_len, show pcs [⟨ad, qo + m, qn - m⟩] = [.bool ad, .int .i64 ((qo : Int) + m), .int .i64 (r : Int)] from by
            rw [pcs, flat_one, pcf]
            simp only [Int.natCast_add]
            congr 4
            omega]
        obtain ⟨L', hL'⟩ : ∃ L', L' = ((L.set k ⟨ad, qo, m⟩).take (k + 1) ++ [⟨ad, qo + m, qn - m⟩]) ++ (L.set k ⟨ad, qo, m⟩).drop (k + 1) := ⟨_, rfl⟩
        have hll' : (L.set k ⟨ad, qo, m⟩).length + 1 = L'.length := by rw [hL']; simp; omega
        have h10 := H9.out
        rw [hx, ← hL', hll'] at h10
        have e4 := (h10.ord [4]).cell (j := 0) rfl
        have f4 := (h10.ord [4]).frozen 0
        have h11 := ((h10.ord [4]).set 0 (.int .i64 ((k : Int) + 1)))
        have hcp' := Hcp.out
        try dsimp only at hcp'
        rw [← hL'] at hcp'
        have HCP := Lib.hid hcp'
        have H11 := Lib.hid ((h11.ord [2, 2, 2]).drop.drop.drop)
        clear hx hL' hll' h10 h11 hcp' H9 H7
        gi_wp2_with fail
        show Owns w0 _ ((Asrt.ex fun i : Nat => Asrt.ex fun L' : List Pc => Asrt.all [Asrt.pure (Code.ret = .ret ∧ CutR f a L off i L'), Asrt.obj b4 (.cells #[.int .i64 i] 3 (0, 0)), pcvec v L']) :: Z :: _)
        exact Owns.exI (k + 1) (Owns.exI L' (Owns.allI (L := [_, _, _]) (Owns.pureI (by rw [show ((k + 1 : Nat) : Int) = (k : Int) + 1 from by omega]; exact H11.out) ⟨rfl, HCP.out⟩)))
      · have hin' : ¬ ((off : Int) < (S0 : Int) + qn) := by omega
        have hres := ((H5.out.ord [1]).set 0 (.int .i64 ((S0 : Int) + qn))).ord [1]
        have Hres := Lib.hid (hres.drop)
        clear hres hat
        gi_wp2_with fail
        show Owns w0 _ ((Asrt.all [Asrt.pure (begins f a L (k + 1) ≤ off), Asrt.obj b5 (.cells #[.int .i64 (begins f a L (k + 1))] 3 (0, 0)), Asrt.obj b4 (.cells #[.int .i64 0] 3 (0, 0)), pcvec v L]) :: Z :: _)
        rw [Hsu.out]
        exact Owns.allI (L := [_, _, _, _]) (Owns.pureI (by rw [Int.natCast_add]; exact Hres.out) (by omega))
  case done =>
    intro D W HW
    obtain ⟨hbe, h⟩ := (Owns.allE (L := [_, _, _, _]) HW).pureE
    rw [Hend.out] at hbe
    have hoff : off = size := by omega
    have d2 : W.cell? ⟨b2, 0, none⟩ = some (.pointer (some ⟨p, 0, none⟩)) := (h.ord [5]).cell (j := 0) rfl
    have dp : W.cell? ⟨p, 2, none⟩ = some (.pointer (some ⟨v, 0, none⟩)) := (h.ord [6]).cell (j := 2) rfl
    have d4 : W.cell? ⟨b4, 0, none⟩ = some (.int .i64 0) := (h.ord [1]).cell (j := 0) rfl
    have f4 := (h.ord [1]).frozen 0
    have hlen := o_len_pc (h.ord [2])
    rw [← Hn.out] at hlen
    have Hlen := Lib.hid hlen
    have hcs := cut_same Hok.out (k := n) (off := off) (by rw [← Hn.out]; exact Nat.le_refl _) (by rw [Hend.out, hoff])
    have h2 := (h.ord [1]).set 0 (.int .i64 (n : Int))
    have u4 : (W.setCell ⟨b4, 0, none⟩ (.int .i64 (n : Int))).cell? ⟨b4, 0, none⟩ = some (.int .i64 (n : Int)) := h2.cell (j := 0) rfl
    have H3 := Lib.hid h2
    clear HW h hlen h2 hbe hoff
    go_wp2_with (go_at_call 64; refine Hlen.out.mono ?_; rintro e w' ⟨rfl, rfl⟩)
    refine leaves_own [D] _ (H3.out.ord [3]) (fun w' hw' => ?_)
    have u4' : w'.cell? ⟨b4, 0, none⟩ = some (.int .i64 (n : Int)) := hw'.cell (j := 0) rfl
    exact ⟨.int .i64 (n : Int), by simp [results, Tryz.f76, go_sem, u4'], (n, L), rfl, Owns.pureI ((hw'.ord [0, 0, 1, 1]).drop.drop.drop.drop.ord [1, 1]) hcs⟩
  case stop =>
    intro D c W HW
    obtain ⟨i, HW⟩ := HW.exE
    obtain ⟨L', HW⟩ := HW.exE
    obtain ⟨⟨rfl, hcr⟩, h⟩ := (Owns.allE (L := [_, _, _]) HW).pureE
    refine wp_ret ?_
    refine leaves_own [D] _ (h.ord [2]) (fun w' hw' => ?_)
    have u4' : w'.cell? ⟨b4, 0, none⟩ = some (.int .i64 (i : Int)) := hw'.cell (j := 0) rfl
    exact ⟨.int .i64 (i : Int), by simp [results, Tryz.f76, go_sem, u4'], (i, L'), rfl, Owns.pureI ((hw'.ord [0, 1, 1]).drop.drop.drop.ord [1, 1]) hcr⟩
end
end Go.Proofs.YtcdoomlagmddcaaGreatDoor
