/- The document's stack: Next. -/
import Derived.Test.YtkgngcibjkkhkaaDoorMN
namespace Go.Proofs.YtkgngcibjkkhkaaDoor
open Go Go.RowKit Go.Fol
attribute [local go_sem ↓] Go.wp_at_zero Go.wp_at_succ
set_option linter.unusedVariables false
set_option linter.unusedSimpArgs false
section
variable {w0 w : World} {R : List Asrt}
theorem wtopCells {p q : Nat} {s : St} {a : Option Addr} {c : Nat} {M : List Ml} {m : Ml} (h : Owns w0 w (wobj p s (.slice a (q + 1) c) :: row_wfr (.slice a (q + 1) c) (q + 1) (flat wfrf M) :: R)) (hm : M[q]? = some m) :
    ∃ g, a = some ⟨g, 0, none⟩ ∧ q + 1 ≤ c ∧ w.cell? ⟨p, 0, none⟩ = some (.slice (some ⟨g, 0, none⟩) (q + 1) c) ∧ w.cell? ⟨g, q * 3, none⟩ = some m.kv ∧ w.cell? ⟨g, q * 3 + 1, none⟩ = some (.int .i64 m.f.at_) ∧ w.cell? ⟨g, q * 3 + 2, none⟩ = some (.int .i64 m.f.n) ∧ (∀ j, w.frozen? ⟨g, j, none⟩ = false) := by
  obtain ⟨g, cap, e, hc, hcm, hcell, hf⟩ := h.p1.rowAt (by omega)
  cases e
  exact ⟨g, rfl, hc, h.cell (j := 0) rfl, hcell _ _ (flat_get wfrf_len hm (j := 0) (by decide)), hcell _ _ (flat_get wfrf_len hm (j := 1) (by decide)), hcell _ _ (flat_get wfrf_len hm (j := 2) (by decide)), hf⟩
theorem wflat_top (A : List Ml) (m : Ml) : flat wfrf (A ++ [m]) = flat wfrf A ++ [m.kv, .int .i64 m.f.at_, .int .i64 m.f.n] := by rw [flat_append, flat_one]; rfl
theorem wflat_set_top {A : List Ml} {m : Ml} {q : Nat} (hq : q = A.length) (n : Int) (j : Nat) : ((flat wfrf (A ++ [m])).set (q * 3 + 1) (.int .i64 j)).set (q * 3 + 2) (.int .i64 n) = flat wfrf (A ++ [m.put n j]) := by
  have hl : (flat wfrf A).length = q * 3 := by rw [flat_len wfrf_len, hq]
  rw [wflat_top, wflat_top, List.set_append_right _ _ (by omega), hl, List.set_append_right _ _ (by omega), hl, Nat.add_sub_cancel_left, Nat.add_sub_cancel_left]
  rfl
theorem wflat_set_at {A : List Ml} {m : Ml} {q : Nat} (hq : q = A.length) (j : Nat) : (flat wfrf (A ++ [m])).set (q * 3 + 1) (.int .i64 j) = flat wfrf (A ++ [m.put m.f.n j]) := by
  have hl : (flat wfrf A).length = q * 3 := by rw [flat_len wfrf_len, hq]
  rw [wflat_top, wflat_top, List.set_append_right _ _ (by omega), hl, Nat.add_sub_cancel_left]
  rfl
theorem wtopPut {p q g c : Nat} {s : St} {A : List Ml} {m : Ml} (h : Owns w0 w (wobj p s (.slice (some ⟨g, 0, none⟩) (q + 1) c) :: row_wfr (.slice (some ⟨g, 0, none⟩) (q + 1) c) (q + 1) (flat wfrf (A ++ [m])) :: Asrt.all ((A ++ [m]).map mlA) :: R)) (hq : q = A.length) (n : Int) (j : Nat) :
    Owns w0 ((w.setCell ⟨g, q * 3 + 1, none⟩ (.int .i64 j)).setCell ⟨g, q * 3 + 2, none⟩ (.int .i64 n)) (wobj p s (.slice (some ⟨g, 0, none⟩) (q + 1) c) :: row_wfr (.slice (some ⟨g, 0, none⟩) (q + 1) c) (q + 1) (flat wfrf (A ++ [m.put n j])) :: Asrt.all ((A ++ [m.put n j]).map mlA) :: R) := by
  have h4 := ((h.p1.rowPut (q := q * 3 + 1) (by omega) (.int .i64 j)).rowPut (q := q * 3 + 2) (by omega) (.int .i64 n))
  rw [wflat_set_top hq, map_mlA_top A m (m.put n j) rfl] at h4
  exact h4.ord [1]
theorem wtopAt {p q g c : Nat} {s : St} {A : List Ml} {m : Ml} (h : Owns w0 w (wobj p s (.slice (some ⟨g, 0, none⟩) (q + 1) c) :: row_wfr (.slice (some ⟨g, 0, none⟩) (q + 1) c) (q + 1) (flat wfrf (A ++ [m])) :: Asrt.all ((A ++ [m]).map mlA) :: R)) (hq : q = A.length) (j : Nat) :
    Owns w0 (w.setCell ⟨g, q * 3 + 1, none⟩ (.int .i64 j)) (wobj p s (.slice (some ⟨g, 0, none⟩) (q + 1) c) :: row_wfr (.slice (some ⟨g, 0, none⟩) (q + 1) c) (q + 1) (flat wfrf (A ++ [m.put m.f.n j])) :: Asrt.all ((A ++ [m.put m.f.n j]).map mlA) :: R) := by
  have h4 := (h.p1.rowPut (q := q * 3 + 1) (by omega) (.int .i64 j))
  rw [wflat_set_at hq, map_mlA_top A m (m.put m.f.n j) rfl] at h4
  exact h4.ord [1]
theorem wtopPop {p q g c : Nat} {s : St} {A : List Ml} {m : Ml} (h : Owns w0 w (wobj p s (.slice (some ⟨g, 0, none⟩) (q + 1) c) :: row_wfr (.slice (some ⟨g, 0, none⟩) (q + 1) c) (q + 1) (flat wfrf (A ++ [m])) :: Asrt.all ((A ++ [m]).map mlA) :: R)) (hq : q = A.length) :
    Owns w0 (w.setCell ⟨p, 0, none⟩ (.slice (some ⟨g, 0, none⟩) q c)) (wstA p { s with L := A.map (·.f) } :: R) := by
  have h6 := ((h.set 0 (.slice (some ⟨g, 0, none⟩) q c)).p1.rowPre (m := q) (by omega))
  have e6 : (flat wfrf (A ++ [m])).take (q * 3) = flat wfrf A := by
    rw [wflat_top]
    exact List.take_left' (by rw [flat_len wfrf_len, hq])
  rw [e6] at h6
  have h7 := (allDropLast mlA (h6.ord [2])).ord [2, 1]
  exact wstI (s := { s with L := A.map (·.f) }) (v := .slice (some ⟨g, 0, none⟩) q c) (M := A) rfl (by rw [← hq]; exact h7)
set_option maxHeartbeats 4000000 in
set_option maxRecDepth 100000 in
theorem wnext {p : Nat} {s : St} (H : Owns w0 w (wstA p s :: R)) (hs : s.ok) :
    Calls Tryd.prog 25 #[.pointer (some ⟨p, 0, none⟩)] w (Ret (nextV (nextF s)) w0 (wstA p (nextS s (nextF s)) :: R)) := by
  obtain ⟨o, ho⟩ : ∃ o, o = nextF s := ⟨_, rfl⟩
  rw [← ho]
  have Ho := Lib.hid ho
  have HH := Lib.hid H
  clear ho
  obtain ⟨a, c, M, hM, h⟩ := wstE H
  have k3 : w.cell? ⟨p, 3, none⟩ = some (.int .i64 s.left) := h.cell (j := 3) rfl
  have f3 := h.frozen 3
  obtain ⟨lf, hlf⟩ : ∃ lf, lf = s.left := ⟨_, rfl⟩
  rw [← hlf] at k3
  have hl0 := hs.left
  rw [← hlf] at hl0
  obtain ⟨hl0, hl1⟩ := hl0
  clear H
  cases hl : s.L.getLast? with
  | none =>
    have hL : s.L = [] := by simpa using hl
    have hMn : M = [] := by rw [hL] at hM; simpa using hM
    subst hMn
    have k0 : w.cell? ⟨p, 0, none⟩ = some (.slice a 0 c) := h.cell (j := 0) rfl
    have hoE : o = none := by rw [Ho.out, nextF, hl]
    subst hoE
    clear h hl hL hM hs hlf
    go_enter Tryd.func25, Tryd.ntmps25
    go_wp2_with fail
    go_ret2
    exact ⟨rfl, HH.out⟩
  | some f =>
    obtain ⟨A, m, rfl, hmf, hdl⟩ := last_map hM hl
    have hfo := hs.fr f (List.mem_of_getLast? hl)
    obtain ⟨hat, hn1, hfk, hfb, hn2⟩ := hfo
    obtain ⟨q, hq⟩ : ∃ q, q = A.length := ⟨_, rfl⟩
    have h' := h
    rw [show (A ++ [m]).length = q + 1 by rw [List.length_append, hq]; rfl] at h'
    obtain ⟨g, rfl, hqc, k0, g0, g1, g2, gf⟩ := wtopCells h' (m := m) (by rw [hq]; simp)
    have hql : q ≤ 1000 := by have h1 := hs.len; rw [← hM, List.length_map, List.length_append] at h1; omega
    by_cases hz : lf = 0
    · subst hz
      have hoE : o = none := by rw [Ho.out, nextF, hl]; simp only; rw [if_pos hlf.symm]
      subst hoE
      clear h h' hl hM hs hlf hmf hdl hq gf
      go_enter Tryd.func25, Tryd.ntmps25
      go_wp2_with fail
      go_ret2
      exact ⟨rfl, HH.out⟩
    · have hzf : (lf == 0) = false := beq_eq_false_iff_ne.2 hz
      obtain ⟨kl, hkl⟩ : ∃ kl, kl = f.K.length := ⟨_, rfl⟩
      obtain ⟨j, hj⟩ : ∃ j, j = f.at_ := ⟨_, rfl⟩
      obtain ⟨n, hn⟩ : ∃ n, n = f.n := ⟨_, rfl⟩
      have hsrc : SrcV w 1 m.kv m.f.K.length (kints .u8 m.f.K) := (allMem mlA (L := A ++ [m]) (x := m) (by simp) (by simp) h).src
      rw [Ml.kv, hmf, ← hkl] at g0 hsrc
      rw [hmf, ← hj] at g1
      rw [hmf, ← hn] at g2
      rw [← hkl, ← hj] at hat
      rw [← hn] at hn1 hn2
      have hkl1000 : kl ≤ 1000 := by rw [hkl]; exact hfk
      obtain ⟨kb, ko, kc, ekv, hkc, _, hce⟩ := hsrc.cells (by omega) (by decide)
      have hx := kints_get .u8 f.K (i := j) (by omega)
      obtain ⟨cc, hxe⟩ : ∃ x, x = f.K[j]?.getD 0 := ⟨_, rfl⟩
      rw [← hxe] at hx
      have cx := hce j _ hx
      rw [ekv] at g0
      have hoE : o = some (cc, { s with L := popL (A.map (·.f)) f, left := lf - 1 }) := by
        rw [Ho.out, nextF, hl]
        simp only
        rw [if_neg (by rw [← hlf]; exact hz), hdl, ← hlf, hxe, ← hj, List.getD_eq_getElem?_getD]
      subst hoE
      have gf1 := gf (q * 3 + 1)
      have hmd : ∀ (W : World), Owns w0 W (wobj p s (.slice (some ⟨g, 0, none⟩) (q + 1) c) :: row_wfr (.slice (some ⟨g, 0, none⟩) (q + 1) c) (q + 1) (flat wfrf (A ++ [m])) :: Asrt.all ((A ++ [m]).map mlA) :: R) → Owns w0 ((W.setCell ⟨p, 3, none⟩ (.int .i64 (lf - 1))).setCell ⟨g, q * 3 + 1, none⟩ (.int .i64 ((j : Int) + 1))) (wobj p { s with left := lf - 1 } (.slice (some ⟨g, 0, none⟩) (q + 1) c) :: row_wfr (.slice (some ⟨g, 0, none⟩) (q + 1) c) (q + 1) (flat wfrf (A ++ [m.put m.f.n (j + 1)])) :: Asrt.all ((A ++ [m.put m.f.n (j + 1)]).map mlA) :: R) := fun W hW =>
        wtopAt (s := { s with left := lf - 1 }) (hW.set 3 (.int .i64 (lf - 1))) hq (j + 1)
      have H8 : Hid (∀ k, Owns w0 (((w.drewN k).setCell ⟨p, 3, none⟩ (.int .i64 (lf - 1))).setCell ⟨g, q * 3 + 1, none⟩ (.int .i64 ((j : Int) + 1))) (wobj p { s with left := lf - 1 } (.slice (some ⟨g, 0, none⟩) (q + 1) c) :: row_wfr (.slice (some ⟨g, 0, none⟩) (q + 1) c) (q + 1) (flat wfrf (A ++ [m.put m.f.n (j + 1)])) :: Asrt.all ((A ++ [m.put m.f.n (j + 1)]).map mlA) :: R)) := Lib.hid (fun k => hmd _ (h'.drewN k))
      have kj : ∀ k, ((w.drewN k).setCell ⟨p, 3, none⟩ (.int .i64 (lf - 1))).cell? ⟨g, q * 3 + 1, none⟩ = some (.int .i64 j) := fun k => by
        have h1 := ((h'.drewN k).set 3 (.int .i64 (lf - 1)))
        obtain ⟨g', e', _, _, _, x, _, _⟩ := wtopCells (s := { s with left := lf - 1 }) h1 (m := m) (by rw [hq]; simp)
        cases e'
        rw [x, hmf, hj]
      have kf : ∀ k, ((w.drewN k).setCell ⟨p, 3, none⟩ (.int .i64 (lf - 1))).frozen? ⟨g, q * 3 + 1, none⟩ = false := fun k => by
        have h1 := ((h'.drewN k).set 3 (.int .i64 (lf - 1)))
        obtain ⟨g', e', _, _, _, _, _, x⟩ := wtopCells (s := { s with left := lf - 1 }) h1 (m := m) (by rw [hq]; simp)
        cases e'
        exact x _
      have hcell : ∀ (W : World), Owns w0 W (wobj p { s with left := lf - 1 } (.slice (some ⟨g, 0, none⟩) (q + 1) c) :: row_wfr (.slice (some ⟨g, 0, none⟩) (q + 1) c) (q + 1) (flat wfrf (A ++ [m.put m.f.n (j + 1)])) :: Asrt.all ((A ++ [m.put m.f.n (j + 1)]).map mlA) :: R) →
          W.cell? ⟨p, 0, none⟩ = some (.slice (some ⟨g, 0, none⟩) (q + 1) c) ∧ W.cell? ⟨g, q * 3, none⟩ = some (.slice (some ⟨kb, ko, none⟩) kl kc) ∧ W.cell? ⟨g, q * 3 + 1, none⟩ = some (.int .i64 ((j : Int) + 1)) ∧ W.cell? ⟨g, q * 3 + 2, none⟩ = some (.int .i64 n) ∧ (∀ j, W.frozen? ⟨g, j, none⟩ = false) := fun W hW => by
        obtain ⟨g', e', _, x0, x1, x2, x3, x4⟩ := wtopCells hW (m := m.put m.f.n (j + 1)) (by rw [hq]; simp)
        cases e'
        refine ⟨x0, ?_, x2, ?_, x4⟩
        · rw [x1]
          show some (Value.slice m.a m.f.K.length m.c) = _
          rw [hmf, ← hkl, ekv]
        · rw [x3]
          show some (Value.int .i64 m.f.n) = _
          rw [hmf, hn]
      have Hcell := Lib.hid hcell
      have Hq := Lib.hid hq
      have Hmf := Lib.hid hmf
      have Hj := Lib.hid hj
      have Hn := Lib.hid hn
      have Hkl := Lib.hid hkl
      clear h h' hl hM hs hlf hmf hdl hq gf hkl hj hn hsrc hce hx hxe hz ekv HH hmd hcell
      go_enter Tryd.func25, Tryd.ntmps25
      go_wp2_with fail
      go_quiet (fail)
      go_wp2_with fail
      go_quiet (fail)
      go_upto_region 6 with (fail)
      go_cut [] (fun wx => Owns w0 wx (wobj p { s with left := lf - 1 } (.slice (some ⟨g, 0, none⟩) (q + 1) c) :: row_wfr (.slice (some ⟨g, 0, none⟩) (q + 1) c) (q + 1) (flat wfrf (A ++ [m.put m.f.n (j + 1)])) :: Asrt.all ((A ++ [m.put m.f.n (j + 1)]).map mlA) :: R))
      case first =>
        go_wp2_with fail
        go_meet
        exact H8.out _
      case rest =>
      obtain ⟨W, rfl⟩ : ∃ W, W = wc := ⟨_, rfl⟩
      have H9 := Lib.hid hcut
      obtain ⟨y0, yk, yj, yn, yf⟩ := Hcell.out _ hcut
      clear hcut H8 kj kf k0 g0 g1 g2 k3 f3 gf1 Hcell cx
      have hpl : popL (A.map (·.f)) f = if j + 1 = kl then (if n - 1 < 1 then A.map (·.f) else A.map (·.f) ++ [{ f with at_ := 0, n := n - 1 }]) else A.map (·.f) ++ [{ f with at_ := j + 1 }] := by
        unfold popL stepFr
        rw [← Hj.out, ← Hkl.out, ← Hn.out]
        by_cases h1 : j + 1 = kl
        · by_cases h2 : n - 1 < 1
          · rw [if_pos h1, if_pos h2, if_pos h1, if_pos h2]
          · rw [if_pos h1, if_neg h2, if_pos h1, if_neg h2]
        · rw [if_neg h1, if_neg h1]
      obtain ⟨E, hE⟩ : ∃ E, E = popL (A.map (·.f)) f := ⟨_, rfl⟩
      rw [← hE] at hpl
      have HE := Lib.hid hE
      by_cases hjk : j + 1 = kl
      · rw [if_pos hjk] at hpl
        have hjz : (((j : Int) + 1) == (kl : Int)) = true := by rw [beq_iff_eq]; omega
        have yf1 := yf (q * 3 + 1)
        have yf2 := yf (q * 3 + 2)
        obtain ⟨n1, hn1e⟩ : ∃ n1, n - 1 = n1 := ⟨_, rfl⟩
        rw [hn1e] at hpl
        have fp0 := H9.out.frozen 0
        by_cases hnn : n1 < 1
        · obtain rfl : n1 = 0 := by omega
          obtain rfl : n = 1 := by omega
          rw [if_pos (by decide)] at hpl
          have kp : ∀ k, (((W.drewN k).setCell ⟨g, q * 3 + 1, none⟩ (.int .i64 0)).setCell ⟨g, q * 3 + 2, none⟩ (.int .i64 0)).cell? ⟨p, 0, none⟩ = some (.slice (some ⟨g, 0, none⟩) (q + 1) c) := fun k => (wtopPut (H9.out.drewN k) Hq.out 0 0).cell (j := 0) rfl
          have H8 : Hid (∀ k, Owns w0 ((((W.drewN k).setCell ⟨g, q * 3 + 1, none⟩ (.int .i64 0)).setCell ⟨g, q * 3 + 2, none⟩ (.int .i64 0)).setCell ⟨p, 0, none⟩ (.slice (some ⟨g, 0, none⟩) q c)) (wstA p { s with L := A.map (·.f), left := lf - 1 } :: R)) := Lib.hid (fun k => wtopPop (wtopPut (H9.out.drewN k) Hq.out 0 0) Hq.out)
          have Hpl := Lib.hid hpl
          clear hn1e hnn hpl hE hn1
          go_wp2_with fail
          go_quiet (fail)
          go_wp2_with fail
          go_region
          go_wp2_with fail
          go_ret2
          refine ⟨rfl, ?_⟩
          have h9 := fun k => (H8.out k).drew
          rw [← Hpl.out, HE.out] at h9
          exact h9 _
        · have hnz : (n1 == 0) = false := beq_eq_false_iff_ne.2 (by omega)
          have hw : IntKind.i64.wrap n1 = n1 := by rw [IntKind.wrap_i64]; omega
          rw [if_neg hnn] at hpl
          have H8 : Hid (∀ k, Owns w0 (((W.drewN k).setCell ⟨g, q * 3 + 1, none⟩ (.int .i64 0)).setCell ⟨g, q * 3 + 2, none⟩ (.int .i64 n1)) (wstA p { s with L := A.map (·.f) ++ [{ f with at_ := 0, n := n1 }], left := lf - 1 } :: R)) := Lib.hid (fun k => wstI (M := A ++ [(m.put m.f.n (j + 1)).put n1 0]) (by simp [Hmf.out]) (by rw [List.length_append, ← Hq.out]; exact wtopPut (H9.out.drewN k) Hq.out n1 0))
          have Hpl := Lib.hid hpl
          clear hnn hpl hE
          go_wp2_with fail
          go_quiet (fail)
          go_wp2_with fail
          go_ret2
          refine ⟨rfl, ?_⟩
          have h9 := H8.out
          rw [← Hpl.out, HE.out] at h9
          exact h9 _
      · rw [if_neg hjk] at hpl
        have hjz : (((j : Int) + 1) == (kl : Int)) = false := by rw [beq_eq_false_iff_ne]; omega
        have hnz : (n == 0) = false := beq_eq_false_iff_ne.2 (by omega)
        have H8 : Hid (Owns w0 W (wstA p { s with L := A.map (·.f) ++ [{ f with at_ := j + 1 }], left := lf - 1 } :: R)) := Lib.hid (wstI (M := A ++ [m.put m.f.n (j + 1)]) (by simp [Hmf.out]) (by rw [List.length_append, ← Hq.out]; exact H9.out))
        have Hpl := Lib.hid hpl
        clear hjk hpl hE
        go_wp2_with fail
        go_quiet (fail)
        go_wp2_with fail
        go_ret2
        refine ⟨rfl, ?_⟩
        have h9 := H8.out
        rw [← Hpl.out, HE.out] at h9
        exact h9.drewN _
end
end Go.Proofs.YtkgngcibjkkhkaaDoor
