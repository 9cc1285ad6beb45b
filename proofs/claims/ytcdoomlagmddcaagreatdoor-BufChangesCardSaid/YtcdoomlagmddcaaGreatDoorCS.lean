/- Piece tables: Slice. -/
import Derived.Test.YtcdoomlagmddcaaGreatDoorCI
import Derived.Laws.BytesArg
namespace Go.Proofs.YtcdoomlagmddcaaGreatDoor
open Go Go.RowKit Go.Fol
attribute [local go_sem ↓] Go.wp_at_zero Go.wp_at_succ run_min2 run_max2
attribute [local go_sem] Oper.semAt_some
set_option linter.unusedVariables false
set_option linter.unusedSimpArgs false
set_option maxRecDepth 100000
/-- What of the first bytes lies in a part. -/
theorem part_append (P t : List UInt8) (off e : Nat) : ((P ++ t).take e).drop off = (P.take e).drop off ++ (t.drop (max off P.length - P.length)).take (min e (P.length + t.length) - max off P.length) := by
  rw [List.take_append, List.drop_append]
  congr 1
  by_cases h : e ≤ P.length
  · rw [show e - P.length = 0 by omega, show min e (P.length + t.length) - max off P.length = 0 by omega]
    simp
  · rw [List.length_take, show min e P.length = P.length by omega, List.drop_take, show max off P.length - P.length = off - P.length by omega]
    apply List.ext_getElem?
    intro j
    simp only [List.getElem?_take, List.getElem?_drop]
    by_cases h1 : j < e - P.length - (off - P.length)
    · rw [if_pos h1]
      by_cases h2 : j < min e (P.length + t.length) - max off P.length
      · rw [if_pos h2]
      · rw [if_neg h2, List.getElem?_eq_none (by omega)]
    · rw [if_neg h1, if_neg (by omega)]
/-- What of the first k pieces lies in a part. -/
def outOf (f a : List UInt8) (L : List Pc) (off e k : Nat) : List UInt8 := ((txs f a (L.take k)).take e).drop off
theorem outOf_succ {f a : List UInt8} {L : List Pc} {k off e : Nat} {q : Pc} (hq : L[k]? = some q) (ho : PcOk f a q) :
    outOf f a L off e (k + 1) = outOf f a L off e k ++ ((ptx f a q).drop (max off (begins f a L k) - begins f a L k)).take (min e (begins f a L k + q.n) - max off (begins f a L k)) := by
  obtain ⟨h1, h2⟩ := List.getElem?_eq_some_iff.1 hq
  rw [outOf, List.take_succ_eq_append_getElem h1, h2, txs_append, txs_one, part_append, ptx_len ho]
  rfl
theorem outOf_all (f a : List UInt8) (L : List Pc) (off e : Nat) : outOf f a L off e L.length = ((txs f a L).take e).drop off := by rw [outOf, List.take_length]
theorem outOf_len {f a : List UInt8} {L : List Pc} (off e k : Nat) : (outOf f a L off e k).length ≤ e - off := by rw [outOf, List.length_drop, List.length_take]; omega
theorem outOf_zero (f a : List UInt8) (L : List Pc) (off e : Nat) : outOf f a L off e 0 = [] := by simp [outOf, txs]
theorem conv_row {W : World} {v : Value} {G : List UInt8} (h : W.ownsRow 0 5 1 v G.length (kints .u8 (bnum G))) : (convert 37 9 v).run Tryz.prog W = .ok (.string (bstr G)) W := by
  rcases row_form h with ⟨rfl, h0, _⟩ | ⟨g, cap, cur, rfl, _⟩
  · cases List.eq_nil_of_length_eq_zero h0
    exact run_convert_bytes_nil W 37 5 Tryz.underlying37 Tryz.underlying5 0 0 9 Tryz.underlying9
  · exact conv_bytes ⟨g, 0, none⟩ G W cap (fun j hj => h.cells (g := g) rfl j _ (by simp [kints, bnum, hj]))
theorem reach_iff (T : Tb) (off n : Int) : reachB T off n = true ↔ 0 ≤ off ∧ 0 ≤ n ∧ off ≤ T.size ∧ n ≤ T.size - off := by simp [reachB, and_assoc]
section
variable {w0 w : World} {R : List Asrt}
theorem cslice_out {p : Nat} {T : Tb} (off n : Int) (H : Owns w0 w (tabA p T :: R)) (hT : T.ok) (h : reachB T off n = false) :
    Calls Tryz.prog 38 #[.pointer (some ⟨p, 0, none⟩), .int .i64 off, .int .i64 n] w (Ret (.tuple #[.string ⟨#[]⟩, .int .i64 20]) w0 (tabA p T :: R)) := by
  obtain ⟨v, aa, ac, h0⟩ := tabE H
  have h1 := ((h0.alloc #[.pointer (some ⟨p, 0, none⟩)] 54).alloc #[.int .i64 off] 3).alloc #[.int .i64 n] 3
  have hr := creach off n (h1.ord [3]) hT.sz
  rw [h] at hr
  have Hr := Lib.hid hr
  have H1 := Lib.hid (tabI ((h1.drop.drop.drop)))
  clear H h0 h1 hr hT h
  go_enter Tryz.func38, Tryz.ntmps38
  go_wp2_with (go_at_call 60; refine Hr.out.mono ?_; rintro e w' ⟨rfl, rfl⟩)
  go_ret2
  exact ⟨rfl, H1.out⟩
set_option maxHeartbeats 4000000 in
set_option maxRecDepth 100000 in
theorem cslice {p : Nat} {T : Tb} (off m : Nat) (H : Owns w0 w (tabA p T :: R)) (hT : T.ok) (ho : off + m ≤ T.size) :
    Calls Tryz.prog 38 #[.pointer (some ⟨p, 0, none⟩), .int .i64 off, .int .i64 m] w
      (Ret (.tuple #[.string (bstr ((T.tx.drop off).take m)), .int .i64 0]) w0 (tabA p T :: R)) := by
  have hre : reachB T off m = true := (reach_iff T off m).2 ⟨by omega, by omega, by omega, by omega⟩
  obtain ⟨v, aa, ac, h⟩ := tabE H
  obtain ⟨f, a, L, size, most, edits⟩ := T
  obtain ⟨hok, hsz, hfl, hal, hll, hed, hsm, hmost⟩ := hT
  dsimp only [Tb.tx] at *
  obtain ⟨n, hn⟩ : ∃ n, n = L.length := ⟨_, rfl⟩
  have hend := begins_all f a L
  rw [← hsz, ← hn] at hend
  have Hend := Lib.hid hend
  have Hok := Lib.hid hok
  have Hn := Lib.hid hn
  rw [← hn] at hll
  obtain ⟨b3, hb3⟩ : ∃ b, b = w.heap.size := ⟨_, rfl⟩
  obtain ⟨b4, hb4⟩ : ∃ b, b = b3 + 1 := ⟨_, rfl⟩
  obtain ⟨b5, hb5⟩ : ∃ b, b = b4 + 1 := ⟨_, rfl⟩
  obtain ⟨b8, hb8⟩ : ∃ b, b = b5 + 1 := ⟨_, rfl⟩
  obtain ⟨b9, hb9⟩ : ∃ b, b = b8 + 1 := ⟨_, rfl⟩
  obtain ⟨W1, hW1⟩ : ∃ W1, ((w.alloc (.cells #[.pointer (some ⟨p, 0, none⟩)] 54)).alloc (.cells #[.int .i64 off] 3)).alloc (.cells #[.int .i64 m] 3) = W1 := ⟨_, rfl⟩
  have h1 := ((h.alloc #[.pointer (some ⟨p, 0, none⟩)] 54).alloc #[.int .i64 off] 3).alloc #[.int .i64 m] 3
  rw [hW1] at h1
  simp only [World.size_alloc] at h1
  rw [← hb3, ← hb4, ← hb5] at h1
  have hr := creach off m (h1.ord [3]) hsm
  rw [hre] at hr
  have r3 : W1.cell? ⟨b3, 0, none⟩ = some (.pointer (some ⟨p, 0, none⟩)) := (h1.ord [2]).cell (j := 0) rfl
  have r4 : W1.cell? ⟨b4, 0, none⟩ = some (.int .i64 off) := (h1.ord [1]).cell (j := 0) rfl
  have r5 : W1.cell? ⟨b5, 0, none⟩ = some (.int .i64 m) := h1.cell (j := 0) rfl
  have hws : W1.heap.size = b8 := by rw [← hW1]; simp only [World.size_alloc]; omega
  obtain ⟨W2, hW2⟩ : ∃ W2, (W1.alloc (.cells #[.slice none 0 0] 37)).alloc (.cells #[.int .i64 0] 3) = W2 := ⟨_, rfl⟩
  have h2 := (h1.alloc #[.slice none 0 0] 37).alloc #[.int .i64 0] 3
  rw [hW2] at h2
  simp only [World.size_alloc, hws] at h2
  rw [← hb9] at h2
  have k3 : W2.cell? ⟨b3, 0, none⟩ = some (.pointer (some ⟨p, 0, none⟩)) := (h2.ord [4]).cell (j := 0) rfl
  have kp : W2.cell? ⟨p, 2, none⟩ = some (.pointer (some ⟨v, 0, none⟩)) := (h2.ord [5]).cell (j := 2) rfl
  have Hr := Lib.hid hr
  have H2 := Lib.hid h2
  have HW1 := Lib.hid hW1
  have HW2 := Lib.hid hW2
  have HWS := Lib.hid hws
  have B3 := Lib.hid hb3
  have B4 := Lib.hid hb4
  have B5 := Lib.hid hb5
  have B8 := Lib.hid hb8
  have B9 := Lib.hid hb9
  clear H h h1 h2 hr hW1 hW2 hws hb3 hb4 hb5 hb8 hb9 hok hn hend hsz hre
  refine calls_of_wp_marks Tryz.func38 rfl ?_
  simp only [Tryz.ntmps38, List.size_toArray, List.length_cons, List.length_nil, Nat.reduceAdd, Nat.reduceSub, Array.replicate_succ, Array.replicate_zero, List.push_toArray, List.append_toArray, List.nil_append, List.cons_append]
  go_upto_region 1 with (fail)
  rw [HW1.out, ← B3.out, ← B4.out, ← B5.out]
  go_upto_region 5 with (go_at_call 60; refine Hr.out.mono ?_; rintro e w' ⟨rfl, rfl⟩)
  rw [HW2.out, HWS.out, ← B9.out]
  clear Hr r3 r4 r5 HW1
  go_wp2_with fail
  refine (o_all_pc (H2.out.ord [7]) (pcs_one L) (by have := Hn.out; omega)).mono ?_
  rintro e w1 ⟨b, rfl, h2⟩
  obtain ⟨S, hseq, h3⟩ := o_seq_all_pc h2 (are_pcs L)
  rw [← Hn.out] at hseq
  have H3 := Lib.hid h3
  have Hseq := Lib.hid hseq
  clear h2 h3 hseq k3 kp H2 HW2 HWS B3 B4 B5 B8 B9
  go_wp2_with fail
  refine wp_range_own2 (gf := 99) (lb := #[.pointer (some ⟨b, 0, none⟩)]) rfl (enters_fn Tryz.func99 (by kernel_rfl) rfl) Hseq.out (fun _ => rfl) (w0 := w0)
    (R := pcvec v L :: Asrt.obj b5 (.cells #[.int .i64 m] 3 (0, 0)) :: Asrt.obj b4 (.cells #[.int .i64 off] 3 (0, 0)) :: Asrt.obj b3 (.cells #[.pointer (some ⟨p, 0, none⟩)] 54 (0, 0)) :: tobj p v ⟨f, a, L, size, most, edits⟩ aa ac :: brow aa ac a :: R)
    (fun k => Asrt.ex fun s : Value => Asrt.all [Asrt.obj b9 (.cells #[.int .i64 (begins f a L k)] 3 (0, 0)), Asrt.obj b8 (.cells #[s] 37 (0, 0)), row_byte s (outOf f a L off (off + m) k).length (kints .u8 (bnum (outOf f a L off (off + m) k)))])
    (fun k a' => Asrt.ex fun s : Value => Asrt.ex fun C : Nat => Asrt.ex fun q : Pc => Asrt.all [Asrt.pure (L[k]? = some q ∧ a' = { tmps := #[.pointer (some ⟨p, 0, none⟩), .int .i64 off, .int .i64 m, .pointer (some ⟨b3, 0, none⟩), .pointer (some ⟨b4, 0, none⟩), .pointer (some ⟨b5, 0, none⟩), .string ⟨#[]⟩, .int .i64 0, .pointer (some ⟨b8, 0, none⟩), .pointer (some ⟨b9, 0, none⟩), undef, .pointer (some ⟨C, 0, none⟩), undef, undef, .pointer (some ⟨p, 0, none⟩), .int .i64 off, .int .i64 m, .bool true, .bool false, .pointer (some ⟨p, 0, none⟩), .pointer (some ⟨p, 0, none⟩), .pointer (some ⟨p, 2, none⟩), .pointer (some ⟨v, 0, none⟩), .func (.func 99) #[] #[.pointer (some ⟨b, 0, none⟩)], .int .i64 (k : Int), .agg #[.bool q.ad, .int .i64 q.off, .int .i64 q.n], undef, undef, undef, undef, undef, undef, undef, undef, undef, undef, undef, undef, undef, undef, undef, undef, undef, undef, undef, undef, undef, undef, undef, undef, undef, undef, undef, undef, undef, undef, undef, undef], defers := [] }), Asrt.obj C (.cells #[.bool q.ad, .int .i64 q.off, .int .i64 q.n] 87 (0, 0)), Asrt.obj b9 (.cells #[.int .i64 (begins f a L k)] 3 (0, 0)), Asrt.obj b8 (.cells #[s] 37 (0, 0)), row_byte s (outOf f a L off (off + m) k).length (kints .u8 (bnum (outOf f a L off (off + m) k)))])
    (fun _ => Asrt.pure False) ?start ?assign ?body ?done ?stop
  case start =>
    refine Owns.exI (.slice none 0 0) (Owns.allI (L := [_, _, _]) ?_)
    rw [begins_zero, outOf_zero]
    exact ((H3.out).rowNil 5 1).ord [3, 3, 0]
  case assign =>
    intro l k W Kk Z hk HW hkk
    obtain ⟨q, hq⟩ : ∃ q, L[k]? = some q := ⟨_, List.getElem?_eq_getElem (by have := Hn.out; omega)⟩
    have hg := pcs_get hq
    have e0 : (pcs L)[k * 3]?.getD undef = .bool q.ad := by rw [hg.1]; rfl
    have e1 : (pcs L)[k * 3 + 1]?.getD undef = .int .i64 q.off := by rw [hg.2.1]; rfl
    have e2 : (pcs L)[k * 3 + 2]?.getD undef = .int .i64 q.n := by rw [hg.2.2]; rfl
    simp only [e0, e1, e2]
    obtain ⟨s, HW⟩ := HW.exE
    have HW := Owns.allE (L := [_, _, _]) HW
    have HW1 := Lib.hid HW
    have Hq := Lib.hid hq
    have Hkk := Lib.hid hkk
    clear hg e0 e1 e2 HW hq hkk
    gi_wp2
    exact Hkk.out _ _ (Owns.exI s (Owns.exI W.heap.size (Owns.exI q (Owns.allI (L := [_, _, _, _, _]) (Owns.pureI (HW1.out.alloc _ _) ⟨Hq.out, rfl⟩)))))
  case body =>
    intro l k a' W Z hk HW
    obtain ⟨s, HW⟩ := HW.exE
    obtain ⟨C, HW⟩ := HW.exE
    obtain ⟨q, HW⟩ := HW.exE
    obtain ⟨⟨hq, rfl⟩, HW'⟩ := (Owns.allE (L := [_, _, _, _, _]) HW).pureE
    obtain ⟨S0, hS0⟩ : ∃ S0, S0 = begins f a L k := ⟨_, rfl⟩
    obtain ⟨G, hG⟩ : ∃ G, G = outOf f a L off (off + m) k := ⟨_, rfl⟩
    have hqo := Hok.out q (List.mem_of_getElem? hq)
    have hsu := begins_succ hq hqo
    have hou := outOf_succ (off := off) (e := off + m) hq hqo
    have hGl := outOf_len (f := f) (a := a) (L := L) off (off + m) (k + 1)
    have hsm2 : begins f a L (k + 1) ≤ size := by
      have := begins_mono (f := f) (a := a) (L := L) (show k + 1 ≤ n by omega)
      rw [Hend.out] at this
      exact this
    rw [← hS0, ← hG] at HW'
    rw [← hS0] at hsu hou
    rw [← hG] at hou
    obtain ⟨sa, sc, rfl⟩ := row_slice HW'.p3.row
    have hpl := ptx_len hqo
    obtain ⟨px, hpx⟩ : ∃ px, px = ptx f a q := ⟨_, rfl⟩
    rw [← hpx] at hou hpl
    have htext := ctext (w := W.drew.drew) (HW'.drew.drew.ord [9, 9]) hqo hfl hal
    dsimp only at htext
    rw [← hpx] at htext
    obtain ⟨ad, qo, qn⟩ := q
    dsimp only at *
    obtain ⟨fr, hfr⟩ : ∃ fr : Nat, max (off : Int) (S0 : Int) = (fr : Int) := ⟨max off S0, by omega⟩
    obtain ⟨te, hto⟩ : ∃ te : Nat, min ((off : Int) + m) ((S0 : Int) + qn) = (te : Int) := ⟨min (off + m) (S0 + qn), by omega⟩
    rw [show max off S0 = fr by omega, show min (off + m) (S0 + qn) = te by omega] at hou
    have c0 : W.cell? ⟨C, 0, none⟩ = some (.bool ad) := HW'.cell (j := 0) rfl
    have c1 : W.cell? ⟨C, 1, none⟩ = some (.int .i64 qo) := HW'.cell (j := 1) rfl
    have c2 : W.cell? ⟨C, 2, none⟩ = some (.int .i64 qn) := HW'.cell (j := 2) rfl
    have d9 : W.cell? ⟨b9, 0, none⟩ = some (.int .i64 S0) := (HW'.ord [1]).cell (j := 0) rfl
    have g9 : W.frozen? ⟨b9, 0, none⟩ = false := (HW'.ord [1]).frozen 0
    have d8 : W.cell? ⟨b8, 0, none⟩ = some (.slice sa G.length sc) := (HW'.ord [2]).cell (j := 0) rfl
    have d5 : W.cell? ⟨b5, 0, none⟩ = some (.int .i64 m) := (HW'.ord [6]).cell (j := 0) rfl
    have d4 : W.cell? ⟨b4, 0, none⟩ = some (.int .i64 off) := (HW'.ord [7]).cell (j := 0) rfl
    have d3 : W.cell? ⟨b3, 0, none⟩ = some (.pointer (some ⟨p, 0, none⟩)) := (HW'.ord [8]).cell (j := 0) rfl
    have hw1 : IntKind.i64.wrap ((off : Int) + m) = (off : Int) + m := by rw [IntKind.wrap_i64]; omega
    have hw2 : IntKind.i64.wrap ((S0 : Int) + qn) = (S0 : Int) + qn := by rw [IntKind.wrap_i64]; omega
    have H5 := Lib.hid HW'
    have Hq := Lib.hid hq
    have HS0 := Lib.hid hS0
    have HG := Lib.hid hG
    have Hsu := Lib.hid hsu
    have Hpx := Lib.hid hpx
    have Htext := Lib.hid htext
    clear HW HW' hq hS0 hG hpx htext hqo hsu
    gi_wp2_with fail
    refine wpIn_region_held_round (S := (fun w' => w'.cell? ⟨b4, 0, none⟩ = some (.int .i64 off) ∧ w'.cell? ⟨b5, 0, none⟩ = some (.int .i64 m) ∧ w'.cell? ⟨b9, 0, none⟩ = some (.int .i64 S0) ∧ w'.cell? ⟨C, 2, none⟩ = some (.int .i64 qn))) (by kernel_rfl) (by rfl) ⟨d4, d5, d9, c2⟩ (fun hS0 => ?_)
    refine wpAnyH_take (i := 0) (oi := _) (v := .int .i64 off) rfl (by kernel_rfl) (by kernel_rfl) (by kernel_rfl) (fun _ _ _ h => h) (Or.inl ⟨by rfl, fun w hSw => ?_⟩) hS0 ?_
    · obtain ⟨x0, x1, x2, x3⟩ := hSw; go_simp
    try simp only [Act.put, List.setIfInBounds_toArray, List.set_cons_zero, List.set_cons_succ, List.getElem_toArray, List.getElem_cons_zero, List.getElem_cons_succ]
    refine wpAnyH_take (i := 1) (oi := _) (v := .int .i64 S0) rfl (by kernel_rfl) (by kernel_rfl) (by kernel_rfl) (fun _ _ _ h => h) (Or.inl ⟨by rfl, fun w hSw => ?_⟩) hS0 ?_
    · obtain ⟨x0, x1, x2, x3⟩ := hSw; go_simp
    try simp only [Act.put, List.setIfInBounds_toArray, List.set_cons_zero, List.set_cons_succ, List.getElem_toArray, List.getElem_cons_zero, List.getElem_cons_succ]
    refine wpAnyH_take (i := 2) (oi := _) (v := .int .i64 (fr : Int)) rfl (by kernel_rfl) (by kernel_rfl) (by kernel_rfl) (fun _ _ _ h => h) (Or.inl ⟨by rfl, fun w hSw => ?_⟩) hS0 ?_
    · obtain ⟨x0, x1, x2, x3⟩ := hSw; go_simp
    try simp only [Act.put, List.setIfInBounds_toArray, List.set_cons_zero, List.set_cons_succ, List.getElem_toArray, List.getElem_cons_zero, List.getElem_cons_succ]
    refine wpAnyH_take (i := 3) (oi := _) (v := .int .i64 off) rfl (by kernel_rfl) (by kernel_rfl) (by kernel_rfl) (fun _ _ _ h => h) (Or.inl ⟨by rfl, fun w hSw => ?_⟩) hS0 ?_
    · obtain ⟨x0, x1, x2, x3⟩ := hSw; go_simp
    try simp only [Act.put, List.setIfInBounds_toArray, List.set_cons_zero, List.set_cons_succ, List.getElem_toArray, List.getElem_cons_zero, List.getElem_cons_succ]
    refine wpAnyH_take (i := 4) (oi := _) (v := .int .i64 m) rfl (by kernel_rfl) (by kernel_rfl) (by kernel_rfl) (fun _ _ _ h => h) (Or.inl ⟨by rfl, fun w hSw => ?_⟩) hS0 ?_
    · obtain ⟨x0, x1, x2, x3⟩ := hSw; go_simp
    try simp only [Act.put, List.setIfInBounds_toArray, List.set_cons_zero, List.set_cons_succ, List.getElem_toArray, List.getElem_cons_zero, List.getElem_cons_succ]
    refine wpAnyH_take (i := 5) (oi := _) (v := .int .i64 ((off : Int) + m)) rfl (by kernel_rfl) (by kernel_rfl) (by kernel_rfl) (fun _ _ _ h => h) (Or.inl ⟨by rfl, fun w hSw => ?_⟩) hS0 ?_
    · obtain ⟨x0, x1, x2, x3⟩ := hSw; go_simp
    try simp only [Act.put, List.setIfInBounds_toArray, List.set_cons_zero, List.set_cons_succ, List.getElem_toArray, List.getElem_cons_zero, List.getElem_cons_succ]
    refine wpAnyH_take (i := 6) (oi := _) (v := .int .i64 S0) rfl (by kernel_rfl) (by kernel_rfl) (by kernel_rfl) (fun _ _ _ h => h) (Or.inl ⟨by rfl, fun w hSw => ?_⟩) hS0 ?_
    · obtain ⟨x0, x1, x2, x3⟩ := hSw; go_simp
    try simp only [Act.put, List.setIfInBounds_toArray, List.set_cons_zero, List.set_cons_succ, List.getElem_toArray, List.getElem_cons_zero, List.getElem_cons_succ]
    refine wpAnyH_take (i := 7) (oi := _) (v := .pointer (some ⟨C, 2, none⟩)) rfl (by kernel_rfl) (by kernel_rfl) (by kernel_rfl) (fun _ _ _ h => h) (Or.inl ⟨by rfl, fun w hSw => ?_⟩) hS0 ?_
    · obtain ⟨x0, x1, x2, x3⟩ := hSw; go_simp
    try simp only [Act.put, List.setIfInBounds_toArray, List.set_cons_zero, List.set_cons_succ, List.getElem_toArray, List.getElem_cons_zero, List.getElem_cons_succ]
    refine wpAnyH_take (i := 8) (oi := _) (v := .int .i64 qn) rfl (by kernel_rfl) (by kernel_rfl) (by kernel_rfl) (fun _ _ _ h => h) (Or.inl ⟨by rfl, fun w hSw => ?_⟩) hS0 ?_
    · obtain ⟨x0, x1, x2, x3⟩ := hSw; go_simp
    try simp only [Act.put, List.setIfInBounds_toArray, List.set_cons_zero, List.set_cons_succ, List.getElem_toArray, List.getElem_cons_zero, List.getElem_cons_succ]
    refine wpAnyH_take (i := 9) (oi := _) (v := .int .i64 ((S0 : Int) + qn)) rfl (by kernel_rfl) (by kernel_rfl) (by kernel_rfl) (fun _ _ _ h => h) (Or.inl ⟨by rfl, fun w hSw => ?_⟩) hS0 ?_
    · obtain ⟨x0, x1, x2, x3⟩ := hSw; go_simp
    try simp only [Act.put, List.setIfInBounds_toArray, List.set_cons_zero, List.set_cons_succ, List.getElem_toArray, List.getElem_cons_zero, List.getElem_cons_succ]
    refine wpAnyH_take (i := 10) (oi := _) (v := .int .i64 (te : Int)) rfl (by kernel_rfl) (by kernel_rfl) (by kernel_rfl) (fun _ _ _ h => h) (Or.inl ⟨by rfl, fun w hSw => ?_⟩) hS0 ?_
    · obtain ⟨x0, x1, x2, x3⟩ := hSw; go_simp
    try simp only [Act.put, List.setIfInBounds_toArray, List.set_cons_zero, List.set_cons_succ, List.getElem_toArray, List.getElem_cons_zero, List.getElem_cons_succ]
    refine wpAnyH_take (i := 11) (oi := _) (v := .int .i64 (fr : Int)) rfl (by kernel_rfl) (by kernel_rfl) (by kernel_rfl) (fun _ _ _ h => h) (Or.inl ⟨by rfl, fun w hSw => ?_⟩) hS0 ?_
    · obtain ⟨x0, x1, x2, x3⟩ := hSw; go_simp
    try simp only [Act.put, List.setIfInBounds_toArray, List.set_cons_zero, List.set_cons_succ, List.getElem_toArray, List.getElem_cons_zero, List.getElem_cons_succ]
    refine wpAnyH_take (i := 12) (oi := _) (v := .int .i64 (te : Int)) rfl (by kernel_rfl) (by kernel_rfl) (by kernel_rfl) (fun _ _ _ h => h) (Or.inl ⟨by rfl, fun w hSw => ?_⟩) hS0 ?_
    · obtain ⟨x0, x1, x2, x3⟩ := hSw; go_simp
    try simp only [Act.put, List.setIfInBounds_toArray, List.set_cons_zero, List.set_cons_succ, List.getElem_toArray, List.getElem_cons_zero, List.getElem_cons_succ]
    refine wpAnyH_done (by kernel_rfl) ?_ _
    dsimp only [Whole]
    by_cases hlt : fr < te
    · obtain ⟨x1, hx1⟩ : ∃ x1 : Nat, (fr : Int) - S0 = (x1 : Int) := ⟨fr - S0, by omega⟩
      obtain ⟨x2, hx2⟩ : ∃ x2 : Nat, (te : Int) - S0 = (x2 : Int) := ⟨te - S0, by omega⟩
      obtain ⟨tt, htt⟩ : ∃ tt, tt = (px.drop x1).take (x2 - x1) := ⟨_, rfl⟩
      rw [show fr - S0 = x1 by omega, show te - fr = x2 - x1 by omega, ← htt] at hou
      have hgt : G.length + tt.length ≤ 1000000 := by rw [hou, List.length_append] at hGl; omega
      have hpz : (bstr px).size = qn := by rw [bstr_size, hpl]
      have he : (bstr px).extract x1 x2 = bstr tt := by rw [extract_bstr, htt]
      have hx12 : x1 ≤ x2 := by omega
      have hx2q : x2 ≤ qn := by omega
      have hw3 : IntKind.i64.wrap (x1 : Int) = (x1 : Int) := by rw [IntKind.wrap_i64]; omega
      have hw4 : IntKind.i64.wrap (x2 : Int) = (x2 : Int) := by rw [IntKind.wrap_i64]; omega
      have hlt' : (fr : Int) < (te : Int) := by omega
      have Hou := Lib.hid hou
      clear hou htt
      gi_wp2_with fail
      refine wpIn_region_T (fun w' => w'.cell? ⟨b8, 0, none⟩ = some (.slice sa G.length sc) ∧ w'.cell? ⟨b3, 0, none⟩ = some (.pointer (some ⟨p, 0, none⟩)) ∧ w'.cell? ⟨C, 0, none⟩ = some (.bool ad) ∧ w'.cell? ⟨C, 1, none⟩ = some (.int .i64 qo) ∧ w'.cell? ⟨C, 2, none⟩ = some (.int .i64 qn) ∧ w'.cell? ⟨b9, 0, none⟩ = some (.int .i64 S0)) 12 (by kernel_rfl) (by rfl) ⟨d8, d3, c0, c1, c2, d9⟩ (fun hS0 => ?_)
      refine wpAnyT_take (i := 0) (oi := _) (v := .slice sa G.length sc) [12] rfl (by kernel_rfl) (fun _ _ _ h => h) (Or.inl ⟨by rfl, fun w hSw => ?_⟩) hS0 ?_
      · obtain ⟨x0, x1, x2, x3, x4, x5⟩ := hSw; go_simp
      try simp only [Act.put, List.setIfInBounds_toArray, List.set_cons_zero, List.set_cons_succ, List.getElem_toArray, List.getElem_cons_zero, List.getElem_cons_succ]
      refine wpAnyT_take (i := 1) (oi := _) (v := .pointer (some ⟨p, 0, none⟩)) [12] rfl (by kernel_rfl) (fun _ _ _ h => h) (Or.inl ⟨by rfl, fun w hSw => ?_⟩) hS0 ?_
      · obtain ⟨x0, x1, x2, x3, x4, x5⟩ := hSw; go_simp
      try simp only [Act.put, List.setIfInBounds_toArray, List.set_cons_zero, List.set_cons_succ, List.getElem_toArray, List.getElem_cons_zero, List.getElem_cons_succ]
      refine wpAnyT_take (i := 2) (oi := _) (v := .agg #[.bool ad, .int .i64 qo, .int .i64 qn]) [12] rfl (by kernel_rfl) (fun _ _ _ h => h) (Or.inl ⟨by rfl, fun w hSw => ?_⟩) hS0 ?_
      · obtain ⟨x0, x1, x2, x3, x4, x5⟩ := hSw; go_simp
      try simp only [Act.put, List.setIfInBounds_toArray, List.set_cons_zero, List.set_cons_succ, List.getElem_toArray, List.getElem_cons_zero, List.getElem_cons_succ]
      refine wpAnyT_take (i := 4) (oi := _) (v := .int .i64 (fr : Int)) [12] rfl (by kernel_rfl) (fun _ _ _ h => h) (Or.inl ⟨by rfl, fun w hSw => ?_⟩) hS0 ?_
      · obtain ⟨x0, x1, x2, x3, x4, x5⟩ := hSw; go_simp
      try simp only [Act.put, List.setIfInBounds_toArray, List.set_cons_zero, List.set_cons_succ, List.getElem_toArray, List.getElem_cons_zero, List.getElem_cons_succ]
      refine wpAnyT_take (i := 5) (oi := _) (v := .int .i64 S0) [12] rfl (by kernel_rfl) (fun _ _ _ h => h) (Or.inl ⟨by rfl, fun w hSw => ?_⟩) hS0 ?_
      · obtain ⟨x0, x1, x2, x3, x4, x5⟩ := hSw; go_simp
      try simp only [Act.put, List.setIfInBounds_toArray, List.set_cons_zero, List.set_cons_succ, List.getElem_toArray, List.getElem_cons_zero, List.getElem_cons_succ]
      refine wpAnyT_take (i := 6) (oi := _) (v := .int .i64 (x1 : Int)) [12] rfl (by kernel_rfl) (fun _ _ _ h => h) (Or.inl ⟨by rfl, fun w hSw => ?_⟩) hS0 ?_
      · obtain ⟨x0, x1, x2, x3, x4, x5⟩ := hSw; go_simp
      try simp only [Act.put, List.setIfInBounds_toArray, List.set_cons_zero, List.set_cons_succ, List.getElem_toArray, List.getElem_cons_zero, List.getElem_cons_succ]
      refine wpAnyT_take (i := 7) (oi := _) (v := .int .i64 (te : Int)) [12] rfl (by kernel_rfl) (fun _ _ _ h => h) (Or.inl ⟨by rfl, fun w hSw => ?_⟩) hS0 ?_
      · obtain ⟨x0, x1, x2, x3, x4, x5⟩ := hSw; go_simp
      try simp only [Act.put, List.setIfInBounds_toArray, List.set_cons_zero, List.set_cons_succ, List.getElem_toArray, List.getElem_cons_zero, List.getElem_cons_succ]
      refine wpAnyT_take (i := 8) (oi := _) (v := .int .i64 S0) [12] rfl (by kernel_rfl) (fun _ _ _ h => h) (Or.inl ⟨by rfl, fun w hSw => ?_⟩) hS0 ?_
      · obtain ⟨x0, x1, x2, x3, x4, x5⟩ := hSw; go_simp
      try simp only [Act.put, List.setIfInBounds_toArray, List.set_cons_zero, List.set_cons_succ, List.getElem_toArray, List.getElem_cons_zero, List.getElem_cons_succ]
      refine wpAnyT_take (i := 9) (oi := _) (v := .int .i64 (x2 : Int)) [12] rfl (by kernel_rfl) (fun _ _ _ h => h) (Or.inl ⟨by rfl, fun w hSw => ?_⟩) hS0 ?_
      · obtain ⟨x0, x1, x2, x3, x4, x5⟩ := hSw; go_simp
      try simp only [Act.put, List.setIfInBounds_toArray, List.set_cons_zero, List.set_cons_succ, List.getElem_toArray, List.getElem_cons_zero, List.getElem_cons_succ]
      refine wpAnyT_step (i := 3) (o := _) rfl (by kernel_rfl) (fun K' hK => ?_)
      simp only [List.getElem_toArray, List.getElem_cons_zero, List.getElem_cons_succ]
      rw [if_pos (by rfl)]
      go_simp
      refine Htext.out.mono ?_
      rintro e w1 ⟨rfl, h6⟩
      refine hK.out _ _ ⟨(h6.ord [4]).cell (j := 0) rfl, (h6.ord [10]).cell (j := 0) rfl, (h6.ord [2]).cell (j := 0) rfl, (h6.ord [2]).cell (j := 1) rfl, (h6.ord [2]).cell (j := 2) rfl, (h6.ord [3]).cell (j := 0) rfl⟩ (fun hS1 => ?_)
      clear hK K' hS0
      have H6 := Lib.hid h6
      clear h6 Htext
      try simp only [Act.put, List.setIfInBounds_toArray, List.set_cons_zero, List.set_cons_succ, List.getElem_toArray, List.getElem_cons_zero, List.getElem_cons_succ]
      refine wpAnyT_take (i := 10) (oi := _) (v := .string (bstr tt)) [12] rfl (by kernel_rfl) (fun _ _ _ h => h) (Or.inl ⟨by rfl, fun w hSw => ?_⟩) hS1 ?_
      · obtain ⟨x0, x1, x2, x3, x4, x5⟩ := hSw; go_simp
      try simp only [Act.put, List.setIfInBounds_toArray, List.set_cons_zero, List.set_cons_succ, List.getElem_toArray, List.getElem_cons_zero, List.getElem_cons_succ]
      refine wpAnyT_step (i := 11) (o := _) rfl (by kernel_rfl) (fun K' hK => ?_)
      simp only [List.getElem_toArray, List.getElem_cons_zero, List.getElem_cons_succ]
      rw [if_pos (by rfl)]
      obtain ⟨v', w5, hrn, h9⟩ := app_bstr tt (H6.out.ord [5]) (by omega)
      refine wp_append_run (.tmp 40) (.tmp 50) 37 9 (.slice sa G.length sc) (.string (bstr tt)) (hrn 37) rfl rfl rfl ?_
      obtain ⟨sa', sc', rfl⟩ := row_slice h9.row
      refine hK.out _ _ ⟨(h9.ord [5]).cell (j := 0) rfl, (h9.ord [10]).cell (j := 0) rfl, (h9.ord [3]).cell (j := 0) rfl, (h9.ord [3]).cell (j := 1) rfl, (h9.ord [3]).cell (j := 2) rfl, (h9.ord [4]).cell (j := 0) rfl⟩ (fun hS2 => ?_)
      clear hK K' hS1
      have fb := (h9.ord [5]).frozen 0
      have H9 := Lib.hid h9
      obtain ⟨y0, y1, y2, y3, y4, y5⟩ := hS2
      clear h9 hrn H6
      try simp only [Act.put, List.setIfInBounds_toArray, List.set_cons_zero, List.set_cons_succ, List.getElem_toArray, List.getElem_cons_zero, List.getElem_cons_succ]
      refine wpAnyT_last (i := 12) (o := _) rfl (by kernel_rfl) (by kernel_rfl) (fun K' hK => ?_)
      simp only [List.getElem_toArray, List.getElem_cons_zero, List.getElem_cons_succ]
      rw [if_pos (by rfl)]
      go_simp
      refine hK.out _ _ (wpAnyT_done (by kernel_rfl) ?_ _)
      dsimp only [Whole]
      have h10 := (H9.out.ord [5]).set 0 (.slice sa' (G.length + tt.length) sc')
      obtain ⟨W6, hW6⟩ : ∃ W6, w5.setCell ⟨b8, 0, none⟩ (.slice sa' (G.length + tt.length) sc') = W6 := ⟨_, rfl⟩
      rw [hW6] at h10 ⊢
      have c2' : W6.cell? ⟨C, 2, none⟩ = some (.int .i64 qn) := (h10.ord [4]).cell (j := 2) rfl
      have d9' : W6.cell? ⟨b9, 0, none⟩ = some (.int .i64 S0) := (h10.ord [5]).cell (j := 0) rfl
      have g9' : W6.frozen? ⟨b9, 0, none⟩ = false := (h10.ord [5]).frozen 0
      have h11 := (((h10.ord [5]).set 0 (.int .i64 ((S0 : Int) + qn))).ord [5]).drop.ord [0, 0, 0, 2, 2, 2, 2, 2]
      have H11 := Lib.hid h11
      clear h10 h11 H9 hW6 y0 y1 y2 y3 y4 y5 fb
      gi_wp2_with fail
      show Owns w0 _ ((Asrt.ex fun s : Value => Asrt.all [Asrt.obj b9 (.cells #[.int .i64 (begins f a L (k + 1))] 3 (0, 0)), Asrt.obj b8 (.cells #[s] 37 (0, 0)), row_byte s (outOf f a L off (off + m) (k + 1)).length (kints .u8 (bnum (outOf f a L off (off + m) (k + 1))))]) :: Z :: _)
      rw [Hsu.out, Hou.out]
      refine Owns.exI (.slice sa' (G.length + tt.length) sc') (Owns.allI (L := [_, _, _]) ?_)
      rw [Int.natCast_add, List.length_append]
      exact H11.out
    · have hlt' : ¬ ((fr : Int) < (te : Int)) := by omega
      rw [show te - fr = 0 by omega, List.take_zero, List.append_nil] at hou
      have hres := (((H5.out.drew.ord [1]).set 0 (.int .i64 ((S0 : Int) + qn))).ord [0, 1, 1]).ord [3]
      have Hres := Lib.hid hres.drop
      have Hou := Lib.hid hou
      clear hou hres
      gi_wp2_with fail
      show Owns w0 _ ((Asrt.ex fun s : Value => Asrt.all [Asrt.obj b9 (.cells #[.int .i64 (begins f a L (k + 1))] 3 (0, 0)), Asrt.obj b8 (.cells #[s] 37 (0, 0)), row_byte s (outOf f a L off (off + m) (k + 1)).length (kints .u8 (bnum (outOf f a L off (off + m) (k + 1))))]) :: Z :: _)
      rw [Hsu.out, Hou.out]
      refine Owns.exI (.slice sa G.length sc) (Owns.allI (L := [_, _, _]) ?_)
      rw [Int.natCast_add]
      exact Hres.out
  case done =>
    intro D W HW
    obtain ⟨s, HW⟩ := HW.exE
    have h := Owns.allE (L := [_, _, _]) HW
    obtain ⟨G, hG⟩ : ∃ G, G = outOf f a L off (off + m) n := ⟨_, rfl⟩
    rw [← hG] at h
    have hG2 : G = ((txs f a L).drop off).take m := by rw [hG, Hn.out, outOf_all, List.drop_take, Nat.add_sub_cancel_left]
    obtain ⟨sa, sc, rfl⟩ := row_slice h.p2.row
    have d8 : W.cell? ⟨b8, 0, none⟩ = some (.slice sa G.length sc) := (h.ord [1]).cell (j := 0) rfl
    have hcv := conv_row h.p2.row
    have HG2 := Lib.hid hG2
    have H3' := Lib.hid h
    clear HW h hG2 hG H3
    go_wp2_with fail
    refine leaves_own [D] _ (H3'.out.ord [3]) (fun w' hw' => ?_)
    exact ⟨.tuple #[.string (bstr G), .int .i64 0], by simp [results, Tryz.f38, go_sem], by rw [HG2.out], tabI ((hw'.drop.drop.drop.ord [1, 1, 1]).drop.drop.drop.ord [1, 1])⟩
  case stop =>
    intro D c W HW
    obtain ⟨h, _⟩ := HW.pureE
    exact h.elim
end
end Go.Proofs.YtcdoomlagmddcaaGreatDoor
