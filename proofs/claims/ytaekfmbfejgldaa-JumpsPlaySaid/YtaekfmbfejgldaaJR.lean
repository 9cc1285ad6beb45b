/- jumps: the document's list of jumps: Push. -/
import Derived.Test.YtaekfmbfejgldaaJDA
namespace Go.Proofs.Ytaekfmbfejgldaa
open Go Go.RowKit Go.Fol
attribute [local go_sem ↓] Go.wp_at_zero Go.wp_at_succ
attribute [local go_sem ↓] run_min2 run_max2
set_option linter.unusedVariables false
set_option linter.unusedSimpArgs false
/-- the document's list of jumps. -/
abbrev robj (r : Nat) (s : Value) (n : Int) : Asrt := Asrt.obj r (.cells #[s, .int .i64 n] 42 (0, 0))
abbrev possrc (s : Value) (L : List (Int × Int)) : Asrt := Asrt.src 2 s L.length (poss L)
def Asrt.rj (r : Nat) (L : List (Int × Int)) (at_ : Nat) : Asrt := Asrt.ex fun s => Asrt.all [robj r s at_, possrc s L]
theorem keep_take {L : List (Int × Int)} {k : Nat} {q : Int × Int} (h : L[k]? = some q) (K : Int × Int → Bool) : (L.take (k + 1)).filter K = (L.take k).filter K ++ if K q then [q] else [] := by
  obtain ⟨h1, h2⟩ := List.getElem?_eq_some_iff.1 h
  rw [List.take_succ_eq_append_getElem h1, List.filter_append, h2]
  simp only [List.filter_cons, List.filter_nil]
section
variable {w0 w : World} {R : List Asrt}
theorem rjE {r : Nat} {L : List (Int × Int)} {at_ : Nat} (H : Owns w0 w (Asrt.rj r L at_ :: R)) : ∃ s, Owns w0 w (robj r s at_ :: possrc s L :: R) := by
  obtain ⟨s, h⟩ := H.exE
  exact ⟨s, Owns.allE (L := [_, _]) h⟩
theorem rjI {r : Nat} {s : Value} {L : List (Int × Int)} {at_ : Nat} (H : Owns w0 w (robj r s at_ :: possrc s L :: R)) : Owns w0 w (Asrt.rj r L at_ :: R) := Owns.exI s (Owns.allI (L := [_, _]) H)
theorem srcTail2 {g cap m : Nat} {xs : List Value} (H : Owns w0 w (Asrt.src 2 (.slice (some ⟨g, 0, none⟩) (m + 1) cap) (m + 1) xs :: R)) (hc : ¬ cap = 1) : Owns w0 w (Asrt.src 2 (.slice (some ⟨g, 2, none⟩) m (cap - 1)) m (xs.drop 2) :: R) := by
  have hl := H.src.len
  refine H.srcSub rfl (by omega) ?_
  have := H.src.sliced (i := 1) (j := m + 1) (by omega) (Nat.le_refl _) (by decide)
  unfold Go.sliced at this
  rw [if_neg hc, Nat.add_sub_cancel, List.take_of_length_le (by rw [List.length_drop]; omega)] at this
  exact this
/-- The places of a source, by number. -/
theorem poscells {s : Value} {L : List (Int × Int)} (H : Owns w0 w (possrc s L :: R)) (h : 0 < L.length) : ∃ sb so sc, s = .slice (some ⟨sb, so, none⟩) L.length sc ∧ L.length ≤ sc ∧ ∀ k q, L[k]? = some q → w.cell? ⟨sb, so + k * 2, none⟩ = some (.int .i64 q.1) ∧ w.cell? ⟨sb, so + k * 2 + 1, none⟩ = some (.int .i64 q.2) := by
  obtain ⟨sb, so, sc, e, h1, _, hc⟩ := H.src.cells h (by decide)
  exact ⟨sb, so, sc, e, h1, fun k q hq => ⟨hc _ _ (poss_get hq).1, hc _ _ (poss_get hq).2⟩⟩
set_option maxHeartbeats 2000000 in
theorem rpush {r at_ : Nat} {L : List (Int × Int)} (line col : Int) (H : Owns w0 w (Asrt.rj r L at_ :: R)) (hl : L.length ≤ 16) :
    Calls Try.prog 12 #[.pointer (some ⟨r, 0, none⟩), .agg #[.int .i64 line, .int .i64 col]] w (Ret (.tuple #[]) w0 (Asrt.rj r (pushL L (line, col)) (pushL L (line, col)).length :: R)) := by
  obtain ⟨s, h⟩ := rjE H
  obtain ⟨W, hW⟩ : ∃ W, w.alloc (.cells #[.int .i64 line, .int .i64 col] 29) = W := ⟨_, rfl⟩
  have h1 := h.alloc #[.int .i64 line, .int .i64 col] 29
  rw [hW] at h1
  obtain ⟨B, hB⟩ : ∃ B, B = w.heap.size := ⟨_, rfl⟩
  rw [← hB] at h1
  have H1 := Lib.hid h1
  have HW := Lib.hid hW
  have HB := Lib.hid hB
  obtain ⟨sa, sc, rfl⟩ := h1.p2.src.form
  obtain ⟨K, hK⟩ : ∃ K : Int × Int → Bool, K = fun x => x.1 != line := ⟨_, rfl⟩
  have HK := Lib.hid hK
  clear h h1 hW hB H hK
  go_enter Try.func12, Try.ntmps12
  go_upto_region 1 with (fail)
  rw [HW.out, ← HB.out]
  clear HW HB
  go_wp2_with fail
  go_loopw [4, 5] (fun sv kk wr => ∃ k : Nat, k ≤ L.length ∧ kk = .int .i64 k ∧ Owns w0 wr (row_pos sv ((L.take k).filter K).length (poss ((L.take k).filter K)) :: Asrt.obj B (.cells #[.int .i64 line, .int .i64 col] 29 (0, 0)) :: robj r (.slice sa L.length sc) at_ :: possrc (.slice sa L.length sc) L :: R)) (fun _ kk _ => L.length - (intOf kk).toNat)
  case atStart => exact ⟨0, Nat.zero_le _, rfl, H1.out.rowNil 29 2⟩
  case round =>
    obtain ⟨k, hk, rfl, h2⟩ := hrel
    have c0 : wr.cell? ⟨r, 0, none⟩ = some (.slice sa L.length sc) := h2.p2.cell (j := 0) rfl
    have b0 : wr.cell? ⟨B, 0, none⟩ = some (.int .i64 line) := h2.p1.cell (j := 0) rfl
    have b1 : wr.cell? ⟨B, 1, none⟩ = some (.int .i64 col) := h2.p1.cell (j := 1) rfl
    have hm16 : ((L.take k).filter K).length ≤ 16 := Nat.le_trans (List.length_filter_le _ _) (by simp; omega)
    have H2 := Lib.hid h2
    obtain ⟨ra, rc, rfl⟩ := row_slice h2.row
    clear h2
    by_cases hlt : k < L.length
    · obtain ⟨sb, so, sc', e1, hsc, hce⟩ := poscells H2.out.p3 (by omega)
      cases e1
      obtain ⟨q, hq⟩ : ∃ q, L[k]? = some q := ⟨_, List.getElem?_eq_getElem hlt⟩
      obtain ⟨e0, e1⟩ := hce k q hq
      have hft := keep_take hq K
      have Hft := Lib.hid hft
      have hKq : K q = (q.1 != line) := by rw [HK.out]
      clear hce hq hft
      by_cases hyx : q.1 = line
      · have hyx' : (q.1 != line) = false := by simp [hyx]
        rw [hyx'] at hKq
        have HKq := Lib.hid hKq
        clear hyx hKq
        go_wp2_with fail
        go_quiet (fail)
        go_wp2_with fail
        go_roundw
        case rel => exact ⟨k + 1, by omega, by go_num, by rw [Hft.out, HKq.out, if_neg (by simp), List.append_nil]; exact H2.out.drewN _⟩
        case measure => simp [intOf]; omega
      · have hyx' : (q.1 != line) = true := by simp [hyx]
        rw [hyx'] at hKq
        have HKq := Lib.hid hKq
        have hyb : ((q.1 : Int) == line) = false := by simp [hyx]
        clear hKq hyx' hyx
        go_wp2_with fail
        go_quiet (fail)
        have h6 := ((H2.out.drewN nq).alloc #[.int .i64 q.1, .int .i64 q.2] 29).p1
        obtain ⟨s', w6, hr, h7⟩ := app_pos (x := .slice (some ⟨(wr.drewN nq).heap.size, 0, none⟩) 1 1) (m := 1) (vs := [.int .i64 q.1, .int .i64 q.2]) h6 (Reads.obj (b := (wr.drewN nq).heap.size) (k := 2) (n := 1) (t := 29) (f := (0, 0)) (cs := #[.int .i64 q.1, .int .i64 q.2]) (by simp) (by decide) (by decide) (by simp)) (by simp [Value.oneCell']) (by unfold maxLen; omega) (by omega)
        have h8 := h7.p1.drop
        rw [poss_snoc] at h8
        have H8 := Lib.hid h8
        clear h6 h7 h8
        go_wp2_with (at_builtin; refine Lib.wpList_append_run _ rfl _ _ _ _ rfl _ _ rfl rfl _ _ (hr _) ?_)
        go_roundw
        case rel => exact ⟨k + 1, by omega, by go_num, by rw [Hft.out, HKq.out, if_pos rfl, List.length_append]; exact H8.out⟩
        case measure => simp [intOf]; omega
    · obtain rfl : k = L.length := by omega
      obtain ⟨M, hM⟩ : ∃ M, M = L.filter K := ⟨_, rfl⟩
      have h3 := H2.out
      rw [List.take_of_length_le (Nat.le_refl _), ← hM] at h3 hm16 ⊢
      have h6 := (h3.alloc #[.int .i64 line, .int .i64 col] 29).p1
      obtain ⟨s', w6, hr, h7⟩ := app_pos (x := .slice (some ⟨wr.heap.size, 0, none⟩) 1 1) (m := 1) (vs := [.int .i64 line, .int .i64 col]) h6 (Reads.obj (b := wr.heap.size) (k := 2) (n := 1) (t := 29) (f := (0, 0)) (cs := #[.int .i64 line, .int .i64 col]) (by simp) (by decide) (by decide) (by simp)) (by simp [Value.oneCell']) (by unfold maxLen; omega) (by omega)
      rw [poss_snoc] at h7
      obtain ⟨N, hN⟩ : ∃ N, N = M ++ [(line, col)] := ⟨_, rfl⟩
      have hNl : N.length = M.length + 1 := by rw [hN]; simp
      have hpu : pushL L (line, col) = N.drop (N.length - 16) := by rw [pushL, hN, hM, HK.out]
      rw [← hN] at h7
      obtain ⟨g, cap, hs', hcap⟩ : ∃ g cap, s' = .slice (some ⟨g, 0, none⟩) (M.length + 1) cap ∧ M.length + 1 ≤ cap := by
        rcases row_form h7.row with ⟨_, h, _⟩ | ⟨g, cap, cur, e, _, h, _⟩
        · omega
        · exact ⟨g, cap, e, h⟩
      subst hs'
      have h8 := (h7.srcOfRow (by decide)).p1.drop
      have h9 : Owns w0 w6 (robj r (.slice sa L.length sc) at_ :: Asrt.src 2 (.slice (some ⟨g, 0, none⟩) (M.length + 1) cap) (M.length + 1) (poss N) :: R) := ((((((h7.srcOfRow (by decide)).ord [3, 0]).ord [2]).drop.ord [2]).drop).ord [2]).drop
      have k0 : w6.cell? ⟨r, 0, none⟩ = some (.slice sa L.length sc) := h9.cell (j := 0) rfl
      have k1 : w6.cell? ⟨r, 1, none⟩ = some (.int .i64 at_) := h9.cell (j := 1) rfl
      have f0 : w6.frozen? ⟨r, 0, none⟩ = false := h9.frozen 0
      have f1 : w6.frozen? ⟨r, 1, none⟩ = false := h9.frozen 1
      have H9 := Lib.hid h9
      have Hpu := Lib.hid hpu
      have HNl := Lib.hid hNl
      clear h3 h6 h7 h9 hpu hNl hN hM
      by_cases h16 : M.length + 1 ≤ 16
      · have h16' : ¬ ((16 : Int) < (M.length : Int) + 1) := by omega
        have Hend := Lib.hid ((H9.out.set 0 (.slice (some ⟨g, 0, none⟩) (M.length + 1) cap)).set 1 (.int .i64 ((M.length : Int) + 1)))
        go_wp2_with (at_builtin; refine Lib.wpList_append_run _ rfl _ _ _ _ rfl _ _ rfl rfl _ _ (hr _) ?_)
        go_end0
        refine ⟨rfl, rjI (s := .slice (some ⟨g, 0, none⟩) (M.length + 1) cap) ?_⟩
        have e : pushL L (line, col) = N := by rw [Hpu.out, HNl.out, show M.length + 1 - 16 = 0 by omega, List.drop_zero]
        rw [e, possrc, HNl.out, Int.natCast_add, Int.natCast_one]
        exact Hend.out
      · have h16' : (16 : Int) < (M.length : Int) + 1 := by omega
        have hc1 : ¬ cap = 1 := by omega
        have hc2 : 1 ≤ cap := by omega
        have h10 := (srcTail2 H9.out.p1 hc1).p1
        rw [show (poss N).drop 2 = poss (N.drop 1) from flat_drop posf_len N 1] at h10
        have Hend := Lib.hid ((h10.set 0 (.slice (some ⟨g, 2, none⟩) M.length (cap - 1))).set 1 (.int .i64 (M.length : Int)))
        clear h10
        go_wp2_with (at_builtin; refine Lib.wpList_append_run _ rfl _ _ _ _ rfl _ _ rfl rfl _ _ (hr _) ?_)
        go_end0
        refine ⟨rfl, rjI (s := .slice (some ⟨g, 2, none⟩) M.length (cap - 1)) ?_⟩
        have e : pushL L (line, col) = N.drop 1 := by rw [Hpu.out, HNl.out, show M.length + 1 - 16 = 1 by omega]
        rw [e, possrc, List.length_drop, HNl.out, Nat.add_sub_cancel]
        exact Hend.out
/-- Older refuses. -/
theorem rolder_out {r at_ : Nat} {L : List (Int × Int)} (line col n : Int) (H : Owns w0 w (Asrt.rj r L at_ :: R)) (hn : n < 1 ∨ n > at_) :
    Calls Try.prog 13 #[.pointer (some ⟨r, 0, none⟩), .agg #[.int .i64 line, .int .i64 col], .int .i64 n] w (Ret (.tuple #[.agg #[.int .i64 0, .int .i64 0], .bool false]) w0 (Asrt.rj r L at_ :: R)) := by
  obtain ⟨v, h⟩ := rjE H
  have H2 := Lib.hid ((h.alloc #[.int .i64 line, .int .i64 col] 29).alloc #[.int .i64 0, .int .i64 0] 29)
  have k1 : ((w.alloc (.cells #[.int .i64 line, .int .i64 col] 29)).alloc (.cells #[.int .i64 0, .int .i64 0] 29)).cell? ⟨r, 1, none⟩ = some (.int .i64 at_) := H2.out.p2.cell (j := 1) rfl
  clear h H
  by_cases h1 : n < 1
  · clear hn
    go_enter Try.func13, Try.ntmps13
    go_wp2_with fail
    exact bodyPost_ret (v := .tuple #[.agg #[.int .i64 0, .int .i64 0], .bool false]) (by simp [results, Try.results13, go_sem]) rfl ⟨rfl, rjI H2.out.drop.drop⟩
  · have h2 : (at_ : Int) < n := by omega
    clear hn
    go_enter Try.func13, Try.ntmps13
    go_wp2_with fail
    exact bodyPost_ret (v := .tuple #[.agg #[.int .i64 0, .int .i64 0], .bool false]) (by simp [results, Try.results13, go_sem]) rfl ⟨rfl, rjI H2.out.drop.drop⟩
/-- Newer refuses. -/
theorem rnewer_out {r at_ : Nat} {L : List (Int × Int)} (n : Int) (H : Owns w0 w (Asrt.rj r L at_ :: R)) (hat : at_ ≤ L.length) (hl : L.length ≤ 16) (hn : n < 1 ∨ n ≥ (L.length : Int) - at_) :
    Calls Try.prog 14 #[.pointer (some ⟨r, 0, none⟩), .int .i64 n] w (Ret (.tuple #[.agg #[.int .i64 0, .int .i64 0], .bool false]) w0 (Asrt.rj r L at_ :: R)) := by
  obtain ⟨v, h⟩ := rjE H
  obtain ⟨va, vc, rfl⟩ := h.p1.src.form
  have H2 := Lib.hid (h.alloc #[.int .i64 0, .int .i64 0] 29)
  have k0 : (w.alloc (.cells #[.int .i64 0, .int .i64 0] 29)).cell? ⟨r, 0, none⟩ = some (.slice va L.length vc) := H2.out.p1.cell (j := 0) rfl
  have k1 : (w.alloc (.cells #[.int .i64 0, .int .i64 0] 29)).cell? ⟨r, 1, none⟩ = some (.int .i64 at_) := H2.out.p1.cell (j := 1) rfl
  obtain ⟨W, hW⟩ : ∃ W, w.alloc (.cells #[.int .i64 0, .int .i64 0] 29) = W := ⟨_, rfl⟩
  rw [hW] at k0 k1 H2
  obtain ⟨B, hB⟩ : ∃ B, B = w.heap.size := ⟨_, rfl⟩
  rw [← hB] at H2
  have HW := Lib.hid hW
  have HB := Lib.hid hB
  have r0 : W.cell? ⟨B, 0, none⟩ = some (.int .i64 0) := H2.out.cell (j := 0) rfl
  have r1 : W.cell? ⟨B, 1, none⟩ = some (.int .i64 0) := H2.out.cell (j := 1) rfl
  have r2 : W.frozen? ⟨B, 0, none⟩ = false := H2.out.frozen 0
  have r3 : W.frozen? ⟨B, 1, none⟩ = false := H2.out.frozen 1
  clear h H hW hB
  by_cases h1 : n < 1
  · have hd : decide (n < 1) = true := by simpa using h1
    clear hn
    go_enter Try.func14, Try.ntmps14
    go_upto_region 1 with (fail)
    rw [HW.out, ← HB.out]
    clear HW HB
    go_quiet (fail)
    go_wp2_with fail
    exact bodyPost_ret (v := .tuple #[.agg #[.int .i64 0, .int .i64 0], .bool false]) (by simp [results, Try.results14, go_sem, r0, r1]) rfl ⟨rfl, rjI (((H2.out.drewN nq).set 0 (.int .i64 0)).set 1 (.int .i64 0)).drop⟩
  · have hsub : IntKind.i64.wrap ((L.length : Int) - (at_ : Int)) = (L.length : Int) - (at_ : Int) := by rw [IntKind.wrap_i64]; omega
    have hge : decide ((L.length : Int) - (at_ : Int) ≤ n) = true := by simp; omega
    have hd : decide (n < 1) = false := by simpa using h1
    clear hn
    go_enter Try.func14, Try.ntmps14
    go_upto_region 1 with (fail)
    rw [HW.out, ← HB.out]
    clear HW HB
    go_quiet (fail)
    go_wp2_with fail
    exact bodyPost_ret (v := .tuple #[.agg #[.int .i64 0, .int .i64 0], .bool false]) (by simp [results, Try.results14, go_sem, r0, r1]) rfl ⟨rfl, rjI (((H2.out.drewN nq).set 0 (.int .i64 0)).set 1 (.int .i64 0)).drop⟩
end
end Go.Proofs.Ytaekfmbfejgldaa
