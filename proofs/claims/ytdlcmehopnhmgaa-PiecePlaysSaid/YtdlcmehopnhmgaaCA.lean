/- Piece tables: All. -/
import Derived.Test.YtdlcmehopnhmgaaCT
import Derived.Test.YtdlcmehopnhmgaaRangeZ
import Derived.Stop.RegionWithIn
namespace Go.Proofs.Ytdlcmehopnhmgaa
open Go Go.RowKit Go.Fol
attribute [local go_sem ↓] Go.wp_at_zero Go.wp_at_succ
attribute [local go_sem] Oper.semAt_some
set_option linter.unusedVariables false
set_option linter.unusedSimpArgs false
def pcAt (L : List Pc) (k : Nat) : Pc := L[k]?.getD ⟨false, 0, 0⟩
theorem pcAt_of {L : List Pc} {k : Nat} {q : Pc} (h : L[k]? = some q) : pcAt L k = q := by rw [pcAt, h]; rfl
theorem round_in {m n l l' : Nat} {P : Program} {f : FuncId} {tmps : Array Value} {assign body : Code} {w : World} {R : Ending → World → Prop} (h : RoundIn Fence.wide m P l f tmps assign body w R) : RoundIn (Fence.wide.inRound l') n P l f tmps assign body w R :=
  ⟨trivial, fun c cs _ => h.2 c cs (room_wide _)⟩
theorem yield_merge {F : Fence} {m l : Nat} {P : Program} {f : FuncId} {tmps : Array Value} {assign body : Code} {w : World} {A B : World → Prop} (h : RoundIn F m P l f tmps assign body w fun e W' => (e = .returned (.bool true) ∧ A W') ∨ (e = .returned (.bool false) ∧ B W')) :
    RoundIn F m P l f tmps assign body w fun e W' => ∃ bv : Bool, e = .returned (.bool bv) ∧ if bv = true then A W' else B W' :=
  h.mono fun e W' h => by
    rcases h with ⟨rfl, h⟩ | ⟨rfl, h⟩
    · exact ⟨true, rfl, by simpa using h⟩
    · exact ⟨false, rfl, by simpa using h⟩
section
variable {w0 w : World} {R : List Asrt}
theorem call_all {p : Nat} (w : World) : Calls Try.prog 15 #[.pointer (some ⟨p, 0, none⟩)] w fun e w' => e = .returned (.func (.func 27) #[] #[.pointer (some ⟨w.heap.size, 0, none⟩)]) ∧ w' = w.alloc (.cells #[.pointer (some ⟨p, 0, none⟩)] 23) := by
  go_enter Try.func15, Try.ntmps15
  go_wp2_with fail
  go_ret
  exact ⟨rfl, rfl⟩
/-- What the iterator of All reads. -/
def allM (b p : Nat) (T : Tb) : Asrt := Asrt.all [Asrt.obj b (.cells #[.pointer (some ⟨p, 0, none⟩)] 23 (0, 0)), tabA p T]
set_option maxHeartbeats 4000000 in
set_option maxRecDepth 100000 in
theorem seq_all {b1 p : Nat} {T : Tb} (hT : T.ok) : SeqOwn Try.prog 27 #[.pointer (some ⟨b1, 0, none⟩)] (fun k => #[.string (bstr (ptx T.first T.added (pcAt T.L k)))]) (allM b1 p T) T.L.length w0 := by
  intro l J Jx R w H hY
  refine callsIn_wide.2 ?_
  show Calls Try.prog _ #[.func (.yield l) #[] #[], .pointer (some ⟨b1, 0, none⟩)] w _
  have h0 := (Owns.allE (L := [_, _]) H.p1)
  obtain ⟨v, aa, ac, h⟩ := tabE (h0.ord [1])
  obtain ⟨f, a, L, size, most, edits⟩ := T
  obtain ⟨hok, hsz, hfl, hal, hll, hed, hsm, hmost⟩ := hT
  dsimp only at *
  obtain ⟨n, hn⟩ : ∃ n, n = L.length := ⟨_, rfl⟩
  rw [← hn] at hY hll ⊢
  have HY := Lib.hid hY
  have Hok := Lib.hid hok
  have Hn := Lib.hid hn
  obtain ⟨b2, hb2⟩ : ∃ b, b = w.heap.size := ⟨_, rfl⟩
  obtain ⟨W1, hW1⟩ : ∃ W1, w.alloc (.cells #[.func (.yield l) #[] #[]] 65) = W1 := ⟨_, rfl⟩
  have h1 := h.alloc #[.func (.yield l) #[] #[]] 65
  rw [hW1, ← hb2] at h1
  have k1 : W1.cell? ⟨b1, 0, none⟩ = some (.pointer (some ⟨p, 0, none⟩)) := (h1.ord [4]).cell (j := 0) rfl
  have kp : W1.cell? ⟨p, 2, none⟩ = some (.pointer (some ⟨v, 0, none⟩)) := (h1.ord [1]).cell (j := 2) rfl
  have H1 := Lib.hid h1
  have HW1 := Lib.hid hW1
  have B2 := Lib.hid hb2
  clear H h h0 h1 hW1 hb2 hok hn hsz hY
  refine calls_of_wp_marks Try.func27 rfl ?_
  simp only [Try.ntmps27, List.size_toArray, List.length_cons, List.length_nil, Nat.reduceAdd, Nat.reduceSub, Array.replicate_succ, Array.replicate_zero, List.push_toArray, List.append_toArray, List.nil_append, List.cons_append]
  go_upto_region 1 with (fail)
  rw [HW1.out, ← B2.out]
  go_wp2_with fail
  refine (o_all_pc (H1.out.ord [3]) (pcs_one L) (by have := Hn.out; omega)).mono ?_
  rintro e w1 ⟨b, rfl, h2⟩
  obtain ⟨S, hseq, h3⟩ := o_seq_all_pc h2 (are_pcs L)
  rw [← Hn.out] at hseq
  have H3 := Lib.hid h3
  have Hseq := Lib.hid hseq
  clear h2 h3 hseq k1 kp H1 HW1 B2
  go_wp2_with fail
  refine wp_range_own2 (gf := 37) (lb := #[.pointer (some ⟨b, 0, none⟩)]) rfl (enters_fn Try.func37 (by kernel_rfl) rfl) Hseq.out (fun _ => rfl) (w0 := w0)
    (R := Asrt.obj b2 (.cells #[.func (.yield l) #[] #[]] 65 (0, 0)) :: Asrt.obj b1 (.cells #[.pointer (some ⟨p, 0, none⟩)] 23 (0, 0)) :: tobj p v ⟨f, a, L, size, most, edits⟩ aa ac :: brow aa ac a :: pcvec v L :: R)
    (fun k => J k)
    (fun k a' => Asrt.ex fun C : Nat => Asrt.ex fun q : Pc => Asrt.all [Asrt.pure (L[k]? = some q ∧ a' = { tmps := #[.func (.yield l) #[] #[], .pointer (some ⟨b1, 0, none⟩), .pointer (some ⟨b2, 0, none⟩), undef, .pointer (some ⟨C, 0, none⟩), .pointer (some ⟨p, 0, none⟩), .pointer (some ⟨p, 0, none⟩), .pointer (some ⟨p, 2, none⟩), .pointer (some ⟨v, 0, none⟩), .func (.func 37) #[] #[.pointer (some ⟨b, 0, none⟩)], .int .i64 (k : Int), .agg #[.bool q.ad, .int .i64 q.off, .int .i64 q.n], undef, undef, undef, undef, undef, undef], defers := [] }), Asrt.obj C (.cells #[.bool q.ad, .int .i64 q.off, .int .i64 q.n] 51 (0, 0)), J k])
    (fun c => Asrt.all [Asrt.pure (c = .ret), Jx]) ?start ?assign ?body ?done ?stop
  case start =>
    exact (H3.out).ord [6, 0, 1, 3, 1, 1]
  case assign =>
    intro l' k W Kk Z hk HW hkk
    obtain ⟨q, hq⟩ : ∃ q, L[k]? = some q := ⟨_, List.getElem?_eq_getElem (by have := Hn.out; omega)⟩
    have hg := pcs_get hq
    have e0 : (pcs L)[k * 3]?.getD undef = .bool q.ad := by rw [hg.1]; rfl
    have e1 : (pcs L)[k * 3 + 1]?.getD undef = .int .i64 q.off := by rw [hg.2.1]; rfl
    have e2 : (pcs L)[k * 3 + 2]?.getD undef = .int .i64 q.n := by rw [hg.2.2]; rfl
    simp only [e0, e1, e2]
    have HW1 := Lib.hid HW
    have Hq := Lib.hid hq
    have Hkk := Lib.hid hkk
    clear hg e0 e1 e2 HW hq hkk
    gi_wp2
    exact Hkk.out _ _ (Owns.exI W.heap.size (Owns.exI q (Owns.allI (L := [_, _, _]) (Owns.pureI (HW1.out.alloc _ _) ⟨Hq.out, rfl⟩))))
  case body =>
    intro l' k a' W Z hk HW
    obtain ⟨C, HW⟩ := HW.exE
    obtain ⟨q, HW⟩ := HW.exE
    obtain ⟨⟨hq, rfl⟩, HW'⟩ := (Owns.allE (L := [_, _, _]) HW).pureE
    have hqo := Hok.out q (List.mem_of_getElem? hq)
    have htext := ctext (w := W.drew) (HW'.drew.ord [5, 5]) hqo hfl hal
    have hpa := pcAt_of hq
    dsimp only at htext
    obtain ⟨ad, qo, qn⟩ := q
    dsimp only at *
    have c0 : W.cell? ⟨C, 0, none⟩ = some (.bool ad) := HW'.cell (j := 0) rfl
    have c1 : W.cell? ⟨C, 1, none⟩ = some (.int .i64 qo) := HW'.cell (j := 1) rfl
    have c2 : W.cell? ⟨C, 2, none⟩ = some (.int .i64 qn) := HW'.cell (j := 2) rfl
    have d2 : W.cell? ⟨b2, 0, none⟩ = some (.func (.yield l) #[] #[]) := (HW'.ord [3]).cell (j := 0) rfl
    have d1 : W.cell? ⟨b1, 0, none⟩ = some (.pointer (some ⟨p, 0, none⟩)) := (HW'.ord [4]).cell (j := 0) rfl
    have Hq := Lib.hid hq
    have Hpa := Lib.hid hpa
    have Htext := Lib.hid htext
    clear HW HW' hq hpa htext hqo
    gi_wp2_with fail
    gi_region_with (first
      | (refine in_round (Htext.out.mono ?_); rintro e w1 ⟨rfl, h6⟩; have r2 : w1.cell? ⟨b2, 0, none⟩ = some (.func (.yield l) #[] #[]) := (h6.ord [5]).cell (j := 0) rfl; have h7 := (Owns.allI (L := [_, _, _, _, _, _, _]) (h6.ord [0, 0, 0, 1, 1, 1, 1])).p1; obtain ⟨fn, tmps, assign, body, hy, hR⟩ := HY.out k _ _ hk h7; rw [Hpa.out] at hy; clear h6 h7)
      | (refine (yield_merge (round_in hR)).mono ?_; rintro e w3 ⟨bv, rfl, h9⟩))
    all_goals
      cases bv with
      | true =>
        have h10 : Owns w0 w3 (J (k + 1) :: Asrt.all _ :: R) := h9
        have h11 := ((Owns.allE (L := [_, _, _, _, _, _, _]) h10.p1).ord [2]).drop.ord [6, 2, 2, 2]
        have H11 := Lib.hid h11
        clear h9 h10 h11 hR hy
        gi_wp2_with fail
        exact H11.out
      | false =>
        have h10 : Owns w0 w3 (Jx :: Asrt.all _ :: R) := h9
        have h11 := ((Owns.allE (L := [_, _, _, _, _, _, _]) h10.p1).ord [2]).drop.ord [6, 2, 2, 2]
        have H11 := Lib.hid h11
        clear h9 h10 h11 hR hy
        gi_wp2_with fail
        show Owns w0 _ (Asrt.all [Asrt.pure (Code.ret = Code.ret), Jx] :: Z :: _)
        exact Owns.allI (L := [_, _]) (Owns.pureI H11.out rfl)
  case done =>
    intro D W HW
    have H4 := Lib.hid HW
    clear HW H3
    go_wp2_with fail
    refine leaves_own [D] _ (H4.out.ord [1]) (fun w' hw' => ?_)
    have h5 := (tabI (T := ⟨f, a, L, size, most, edits⟩) (hw'.ord [3, 3, 3])).ord [2]
    exact ⟨_, by simp [results, Try.f27, go_sem]; rfl, ⟨_, rfl⟩, .inl (Owns.allI (L := [_, _]) (h5.drop.ord [2, 0])).p1⟩
  case stop =>
    intro D c W HW
    obtain ⟨rfl, h⟩ := (Owns.allE (L := [_, _]) HW).pureE
    refine wp_ret ?_
    refine leaves_own [D] _ (h.ord [1]) (fun w' hw' => ?_)
    have h5 := (tabI (T := ⟨f, a, L, size, most, edits⟩) (hw'.ord [3, 3, 3])).ord [2]
    exact ⟨_, by simp [results, Try.f27, go_sem]; rfl, ⟨_, rfl⟩, .inr (Owns.allI (L := [_, _]) (h5.drop.ord [2, 0])).p1⟩
end
end Go.Proofs.Ytdlcmehopnhmgaa
