/- The program's stack: settle. -/
import Derived.Test.YtkgngcibjkkhkaaDoorMP
import Derived.LoopN
import Derived.Deep.LoopGhost
namespace Go.Proofs.YtkgngcibjkkhkaaDoor
open Go Go.RowKit Go.Fol
attribute [local go_sem ↓] Go.wp_at_zero Go.wp_at_succ
set_option linter.unusedVariables false
set_option linter.unusedSimpArgs false
section
variable {w0 w : World} {R : List Asrt}
/-- The cells of the top frame. -/
theorem topCells {p q : Nat} {s : St} {a : Option Addr} {c : Nat} {M : List Ml} {m : Ml} (h : Owns w0 w (sobj p s (.slice a (q + 1) c) :: row_frm (.slice a (q + 1) c) (q + 1) (flat frmf M) :: R)) (hm : M[q]? = some m) :
    ∃ g, a = some ⟨g, 0, none⟩ ∧ q + 1 ≤ c ∧ w.cell? ⟨p, 0, none⟩ = some (.slice (some ⟨g, 0, none⟩) (q + 1) c) ∧ w.cell? ⟨g, q * 3, none⟩ = some m.kv ∧ w.cell? ⟨g, q * 3 + 1, none⟩ = some (.int .i64 m.f.n) ∧ w.cell? ⟨g, q * 3 + 2, none⟩ = some (.int .i64 m.f.at_) ∧ (∀ j, w.frozen? ⟨g, j, none⟩ = false) := by
  obtain ⟨g, cap, e, hc, hcm, hcell, hf⟩ := h.p1.rowAt (by omega)
  cases e
  exact ⟨g, rfl, hc, h.cell (j := 0) rfl, hcell _ _ (flat_get frmf_len hm (j := 0) (by decide)), hcell _ _ (flat_get frmf_len hm (j := 1) (by decide)), hcell _ _ (flat_get frmf_len hm (j := 2) (by decide)), hf⟩
theorem last_map {M : List Ml} {L : List Fr} {f : Fr} (hM : M.map (·.f) = L) (h : L.getLast? = some f) : ∃ A m, M = A ++ [m] ∧ m.f = f ∧ L.dropLast = A.map (·.f) := by
  subst hM
  rw [List.getLast?_map] at h
  obtain ⟨m, hm, rfl⟩ := Option.map_eq_some_iff.1 h
  refine ⟨M.dropLast, m, last_form hm, rfl, ?_⟩
  rw [List.map_dropLast]
set_option maxHeartbeats 1000000 in
theorem msettle_ok {p : Nat} {s : St} (H : Owns w0 w (stkA p s :: R)) (hs : s.ok) :
    Calls Tryd.prog 28 #[.pointer (some ⟨p, 0, none⟩)] w (Ret (.tuple #[]) w0 (stkA p s :: R)) := by
  obtain ⟨a, c, M, hM, h⟩ := stkE H
  cases hl : s.L.getLast? with
  | none =>
    have hL : s.L = [] := by simpa using hl
    have hM0 : M = [] := by rw [hL] at hM; simpa using hM
    subst hM0
    have k0 : w.cell? ⟨p, 0, none⟩ = some (.slice a 0 c) := h.cell (j := 0) rfl
    have HH := Lib.hid H
    clear H h hl hL hM
    go_enter Tryd.func28, Tryd.ntmps28
    go_wp2_with fail
    refine wp_loop_rounds 1 ?_
    rw [rounds_succ]
    go_wp2_with fail
    go_end0
    exact ⟨rfl, HH.out⟩
  | some f =>
    obtain ⟨A, m, rfl, hmf, hdl⟩ := last_map hM hl
    have hfo := hs.fr f (List.mem_of_getLast? hl)
    obtain ⟨q, hq⟩ : ∃ q, q = A.length := ⟨_, rfl⟩
    rw [show (A ++ [m]).length = q + 1 by rw [List.length_append, hq]; rfl] at h
    obtain ⟨g, rfl, hqc, k0, g0, g1, g2, gf⟩ := topCells h (m := m) (by rw [hq]; simp)
    have hql : q ≤ 1000 := by have h1 := hs.len; rw [← hM] at h1; simp at h1; omega
    obtain ⟨kl, hkl⟩ : ∃ kl, kl = m.f.K.length := ⟨_, rfl⟩
    obtain ⟨n, hn⟩ : ∃ n, n = m.f.n := ⟨_, rfl⟩
    obtain ⟨j, hj⟩ : ∃ j, j = m.f.at_ := ⟨_, rfl⟩
    rw [Ml.kv, ← hkl] at g0
    rw [← hn] at g1
    rw [← hj] at g2
    have hjk : j < kl := by rw [hj, hkl, hmf]; exact hfo.1
    have hn1 : 1 ≤ n := by rw [hn, hmf]; exact hfo.2.1
    have hne : ((j : Int) == (kl : Int)) = false := beq_eq_false_iff_ne.2 (by omega)
    have HH := Lib.hid H
    clear H h hl hM hdl hfo hq hkl hn hj hs
    go_enter Tryd.func28, Tryd.ntmps28
    go_wp2_with fail
    refine wp_loop_rounds 1 ?_
    rw [rounds_succ]
    go_wp2_with fail
    go_quiet (fail)
    go_wp2_with fail
    go_quiet (fail)
    go_wp2_with fail
    go_end0
    exact ⟨rfl, HH.out.drewN _⟩
theorem flat_top (A : List Ml) (m : Ml) : flat frmf (A ++ [m]) = flat frmf A ++ [m.kv, .int .i64 m.f.n, .int .i64 m.f.at_] := by rw [flat_append, flat_one]; rfl
theorem flat_set_top {A : List Ml} {m : Ml} {q : Nat} (hq : q = A.length) (n : Int) (j : Nat) : ((flat frmf (A ++ [m])).set (q * 3 + 2) (.int .i64 j)).set (q * 3 + 1) (.int .i64 n) = flat frmf (A ++ [{ m with f := { m.f with n := n, at_ := j } }]) := by
  have hl : (flat frmf A).length = q * 3 := by rw [flat_len frmf_len, hq]
  rw [flat_top, flat_top, List.set_append_right _ _ (by omega), hl, List.set_append_right _ _ (by omega), hl, Nat.add_sub_cancel_left, Nat.add_sub_cancel_left]
  rfl
theorem flat_set_at {A : List Ml} {m : Ml} {q : Nat} (hq : q = A.length) (j : Nat) : (flat frmf (A ++ [m])).set (q * 3 + 2) (.int .i64 j) = flat frmf (A ++ [{ m with f := { m.f with at_ := j } }]) := by
  have hl : (flat frmf A).length = q * 3 := by rw [flat_len frmf_len, hq]
  rw [flat_top, flat_top, List.set_append_right _ _ (by omega), hl, Nat.add_sub_cancel_left]
  rfl
theorem map_mlA_top (A : List Ml) (m m' : Ml) (h : mlA m = mlA m') : (A ++ [m]).map mlA = (A ++ [m']).map mlA := by rw [List.map_append, List.map_append, List.map_cons, List.map_cons, h]
abbrev Ml.put (m : Ml) (n : Int) (j : Nat) : Ml := { m with f := { m.f with n := n, at_ := j } }
/-- The top frame's count and place, set; the top frame, let go. -/
theorem topPut {p q g c : Nat} {s : St} {A : List Ml} {m : Ml} (h : Owns w0 w (sobj p s (.slice (some ⟨g, 0, none⟩) (q + 1) c) :: row_frm (.slice (some ⟨g, 0, none⟩) (q + 1) c) (q + 1) (flat frmf (A ++ [m])) :: Asrt.all ((A ++ [m]).map mlA) :: R)) (hq : q = A.length) (n : Int) (j : Nat) :
    Owns w0 ((w.setCell ⟨g, q * 3 + 2, none⟩ (.int .i64 j)).setCell ⟨g, q * 3 + 1, none⟩ (.int .i64 n)) (sobj p s (.slice (some ⟨g, 0, none⟩) (q + 1) c) :: row_frm (.slice (some ⟨g, 0, none⟩) (q + 1) c) (q + 1) (flat frmf (A ++ [m.put n j])) :: Asrt.all ((A ++ [m.put n j]).map mlA) :: R) := by
  have h4 := ((h.p1.rowPut (q := q * 3 + 2) (by omega) (.int .i64 j)).rowPut (q := q * 3 + 1) (by omega) (.int .i64 n))
  rw [flat_set_top hq, map_mlA_top A m (m.put n j) rfl] at h4
  exact h4.ord [1]
theorem topAt {p q g c : Nat} {s : St} {A : List Ml} {m : Ml} (h : Owns w0 w (sobj p s (.slice (some ⟨g, 0, none⟩) (q + 1) c) :: row_frm (.slice (some ⟨g, 0, none⟩) (q + 1) c) (q + 1) (flat frmf (A ++ [m])) :: Asrt.all ((A ++ [m]).map mlA) :: R)) (hq : q = A.length) (j : Nat) :
    Owns w0 (w.setCell ⟨g, q * 3 + 2, none⟩ (.int .i64 j)) (sobj p s (.slice (some ⟨g, 0, none⟩) (q + 1) c) :: row_frm (.slice (some ⟨g, 0, none⟩) (q + 1) c) (q + 1) (flat frmf (A ++ [m.put m.f.n j])) :: Asrt.all ((A ++ [m.put m.f.n j]).map mlA) :: R) := by
  have h4 := (h.p1.rowPut (q := q * 3 + 2) (by omega) (.int .i64 j))
  rw [flat_set_at hq, map_mlA_top A m (m.put m.f.n j) rfl] at h4
  exact h4.ord [1]
theorem topPop {p q g c : Nat} {s : St} {A : List Ml} {m : Ml} (h : Owns w0 w (sobj p s (.slice (some ⟨g, 0, none⟩) (q + 1) c) :: row_frm (.slice (some ⟨g, 0, none⟩) (q + 1) c) (q + 1) (flat frmf (A ++ [m])) :: Asrt.all ((A ++ [m]).map mlA) :: R)) (hq : q = A.length) :
    Owns w0 (w.setCell ⟨p, 0, none⟩ (.slice (some ⟨g, 0, none⟩) q c)) (stkA p { s with L := A.map (·.f) } :: R) := by
  have h6 := ((h.set 0 (.slice (some ⟨g, 0, none⟩) q c)).p1.rowPre (m := q) (by omega))
  have e6 : (flat frmf (A ++ [m])).take (q * 3) = flat frmf A := by
    rw [flat_top]
    exact List.take_left' (by rw [flat_len frmf_len, hq])
  rw [e6] at h6
  have h7 := (allDropLast mlA (h6.ord [2])).ord [2, 1]
  exact stkI (s := { s with L := A.map (·.f) }) (v := .slice (some ⟨g, 0, none⟩) q c) (M := A) rfl (by rw [← hq]; exact h7)
/-- A stack whose top frame may be played out. -/
structure Topped (L : List Fr) : Prop where
  lower : ∀ g ∈ L.dropLast, g.ok
  len : L.length ≤ 1000
  top : ∀ f, L.getLast? = some f → f.at_ ≤ f.K.length ∧ 1 ≤ f.K.length ∧ f.K.length ≤ 1000 ∧ bytesN f.K ∧ 1 ≤ f.n ∧ f.n ≤ 9223372036854775807
/-- What settling comes to. -/
def settleL (L : List Fr) : List Fr := match L.getLast? with
  | none => L
  | some f => if f.at_ = f.K.length then (if f.n - 1 < 1 then L.dropLast else L.dropLast ++ [{ f with at_ := 0, n := f.n - 1 }]) else L
theorem settle_lower {L : List Fr} (h : ∀ g ∈ L, g.ok) : settleL L = L := by
  unfold settleL
  split
  · rfl
  · rename_i f hf
    have := (h f (List.mem_of_getLast? hf)).1
    rw [if_neg (by omega)]
theorem topped_ok {L : List Fr} (h : ∀ g ∈ L, g.ok) (hl : L.length ≤ 1000) : Topped L :=
  ⟨fun g hg => h g ((List.dropLast_sublist _).subset hg), hl, fun f hf => by
    obtain ⟨h1, h2, h3, h4, h5⟩ := h f (List.mem_of_getLast? hf)
    exact ⟨by omega, by omega, h3, h4, h2, h5⟩⟩
set_option maxHeartbeats 2000000 in
theorem msettle {p : Nat} {s : St} (H : Owns w0 w (stkA p s :: R)) (hT : Topped s.L) :
    Calls Tryd.prog 28 #[.pointer (some ⟨p, 0, none⟩)] w (Ret (.tuple #[]) w0 (stkA p { s with L := settleL s.L } :: R)) := by
  obtain ⟨E, hE⟩ : ∃ E, E = settleL s.L := ⟨_, rfl⟩
  rw [← hE]
  have HE := Lib.hid hE
  have HT := Lib.hid hT
  have HH := Lib.hid H
  clear hE hT H
  go_enter Tryd.func28, Tryd.ntmps28
  go_wp2_with fail
  go_loopg [] 1 (fun gk wr => ∃ L : List Fr, settleL L = E ∧ Topped L ∧ (gk = 0 → ∀ g ∈ L, g.ok) ∧ Owns w0 wr (stkA p { s with L := L } :: R))
  case atStart => exact ⟨s.L, HE.out.symm, HT.out, fun h => absurd h (by decide), HH.out⟩
  case round =>
    obtain ⟨L, hLE, hTL, hg0, hr⟩ := hrel
    have Hr := Lib.hid hr
    clear HH HE HT
    obtain ⟨a, c, M, hM, h⟩ := stkE hr
    have hM0 : M.map (·.f) = L := hM
    cases hl : L.getLast? with
    | none =>
      have hL : L = [] := by simpa using hl
      have hMn : M = [] := by rw [hL] at hM0; simpa using hM0
      subst hMn
      have k0 : wr.cell? ⟨p, 0, none⟩ = some (.slice a 0 c) := h.cell (j := 0) rfl
      have hEL : E = L := by rw [← hLE, hL]; rfl
      have HEL := Lib.hid hEL
      clear h hr hl hL hM hM0 hLE hTL hg0 hEL
      go_wp2_with fail
      go_end0
      exact ⟨rfl, by rw [HEL.out]; exact Hr.out⟩
    | some f =>
      obtain ⟨A, m, rfl, hmf, hdl⟩ := last_map hM0 hl
      obtain ⟨hat, hf0, hfk, hfb, hn1, hn2⟩ := hTL.top f hl
      have hlow := hTL.lower
      rw [hdl] at hlow
      obtain ⟨q, hq⟩ : ∃ q, q = A.length := ⟨_, rfl⟩
      rw [show (A ++ [m]).length = q + 1 by rw [List.length_append, hq]; rfl] at h
      obtain ⟨g, rfl, hqc, k0, g0, g1, g2, gf⟩ := topCells h (m := m) (by rw [hq]; simp)
      have hql : q ≤ 1000 := by have h1 := hTL.len; rw [← hM0, List.length_map, List.length_append] at h1; omega
      obtain ⟨kl, hkl⟩ : ∃ kl, kl = f.K.length := ⟨_, rfl⟩
      obtain ⟨n, hn⟩ : ∃ n, n = f.n := ⟨_, rfl⟩
      obtain ⟨j, hj⟩ : ∃ j, j = f.at_ := ⟨_, rfl⟩
      rw [Ml.kv, hmf, ← hkl] at g0
      rw [hmf, ← hn] at g1
      rw [hmf, ← hj] at g2
      rw [← hkl] at hf0 hfk hat
      rw [← hj] at hat
      rw [← hn] at hn1 hn2
      have hn0 : 0 < n := by omega
      have h3 := h
      have H3 := Lib.hid h3
      have Hq := Lib.hid hq
      have Hn := Lib.hid hn
      have Hj := Lib.hid hj
      have Hkl := Lib.hid hkl
      have Hmf := Lib.hid hmf
      have Hdl := Lib.hid hdl
      have Hlow := Lib.hid hlow
      have HLE := Lib.hid hLE
      have Hl := Lib.hid hl
      have HM0 := Lib.hid hM0
      have Hg0 := Lib.hid hg0
      have Hgf := Lib.hid gf
      clear h h3 hr hl hM hM0 hLE hTL hg0 hq hn hj hkl hmf hdl hlow gf
      by_cases hjk : j = kl
      · have hgk : gk ≠ 0 := fun h0 => by
          have := (Hg0.out h0 f (List.mem_of_getLast? Hl.out)).1
          have := Hj.out
          have := Hkl.out
          omega
        subst hjk
        obtain ⟨n1, hn1e⟩ : ∃ n1, n - 1 = n1 := ⟨_, rfl⟩
        have hw : IntKind.i64.wrap n1 = n1 := by rw [IntKind.wrap_i64]; omega
        have gf1 := Hgf.out (q * 3 + 1)
        have gf2 := Hgf.out (q * 3 + 2)
        have f0 := H3.out.frozen 0
        by_cases hnn : n1 < 1
        · obtain rfl : n1 = 0 := by omega
          obtain rfl : n = 1 := by omega
          have hEA : E = A.map (·.f) := by
            rw [← HLE.out, settleL, Hl.out]
            simp only
            rw [if_pos (by rw [← Hj.out, ← Hkl.out]), if_pos (by rw [← Hn.out]; decide), Hdl.out]
          have hall : ∀ g ∈ A.map (·.f), g.ok := Hlow.out
          have hrl : settleL (A.map (·.f)) = E := by rw [settle_lower hall, hEA]
          have hAl : (A.map (·.f)).length ≤ 1000 := by rw [List.length_map, ← Hq.out]; exact hql
          have Hrel := Lib.hid (⟨hrl, topped_ok hall hAl, fun _ => hall⟩ : settleL (A.map (·.f)) = E ∧ Topped (A.map (·.f)) ∧ (gk - 1 = 0 → ∀ g ∈ A.map (·.f), g.ok))
          have kp : ∀ k, ((((wr.drewN k).setCell ⟨g, q * 3 + 2, none⟩ (.int .i64 0)).setCell ⟨g, q * 3 + 1, none⟩ (.int .i64 0))).cell? ⟨p, 0, none⟩ = some (.slice (some ⟨g, 0, none⟩) (q + 1) c) := fun k => (topPut (H3.out.drewN k) Hq.out 0 0).cell (j := 0) rfl
          have H8 : Hid (∀ k, Owns w0 ((((wr.drewN k).setCell ⟨g, q * 3 + 2, none⟩ (.int .i64 0)).setCell ⟨g, q * 3 + 1, none⟩ (.int .i64 0)).setCell ⟨p, 0, none⟩ (.slice (some ⟨g, 0, none⟩) q c)) (stkA p { s with L := A.map (·.f) } :: R)) := Lib.hid (fun k => topPop (topPut (H3.out.drewN k) Hq.out 0 0) Hq.out)
          clear hn1e hw hEA hall hrl hAl
          go_wp2_with fail
          go_quiet (fail)
          go_wp2_with fail
          go_quiet (fail)
          go_wp2_with fail
          go_region
          go_wp2_with fail
          go_roundg (gk - 1)
          case measure => omega
          case rel => exact ⟨A.map (·.f), Hrel.out.1, Hrel.out.2.1, Hrel.out.2.2, (H8.out _).drew⟩
        · have hd : decide ((0 : Int) < n1) = true := decide_eq_true (by omega)
          have hn1p : 0 < n1 := by omega
          have hEA : E = A.map (·.f) ++ [{ f with at_ := 0, n := n1 }] := by
            rw [← HLE.out, settleL, Hl.out]
            simp only
            rw [if_pos (by rw [← Hj.out, ← Hkl.out]), if_neg (by rw [← Hn.out, hn1e]; exact hnn), Hdl.out, ← Hn.out, hn1e]
          have H8 : Hid (∀ k, Owns w0 ((((wr.drewN k).setCell ⟨g, q * 3 + 2, none⟩ (.int .i64 0)).setCell ⟨g, q * 3 + 1, none⟩ (.int .i64 n1))) (stkA p { s with L := A.map (·.f) ++ [{ f with at_ := 0, n := n1 }] } :: R)) := Lib.hid (fun k => stkI (M := A ++ [m.put n1 0]) (by simp [Hmf.out]) (by rw [List.length_append, ← Hq.out]; exact topPut (H3.out.drewN k) Hq.out n1 0))
          have HEA := Lib.hid hEA
          clear hEA hnn
          go_wp2_with fail
          go_quiet (fail)
          go_wp2_with fail
          go_quiet (fail)
          go_wp2_with fail
          go_end0
          exact ⟨rfl, by rw [HEA.out]; exact H8.out _⟩
      · have hne : ((j : Int) == (kl : Int)) = false := beq_eq_false_iff_ne.2 (by omega)
        have hEL : E = L := by
          rw [← HLE.out, settleL, Hl.out]
          simp only
          rw [if_neg (by rw [← Hj.out, ← Hkl.out]; exact hjk)]
        have HEL := Lib.hid hEL
        clear hEL hjk
        go_wp2_with fail
        go_quiet (fail)
        go_wp2_with fail
        go_quiet (fail)
        go_wp2_with fail
        go_end0
        exact ⟨rfl, by rw [HEL.out]; exact Hr.out.drewN _⟩
end
end Go.Proofs.YtkgngcibjkkhkaaDoor
