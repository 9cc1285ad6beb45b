/- The program's stack: Next, and the small ones. -/
import Derived.Test.YtkgngcibjkkhkaaDoorMT
namespace Go.Proofs.YtkgngcibjkkhkaaDoor
open Go Go.RowKit Go.Fol
attribute [local go_sem ↓] Go.wp_at_zero Go.wp_at_succ
set_option linter.unusedVariables false
set_option linter.unusedSimpArgs false
section
variable {w0 w : World} {R : List Asrt}
/-- What Next tells. -/
def nextV : Option (Int × St) → Value | some (c, _) => .tuple #[.int .u8 c, .bool true] | none => .tuple #[.int .u8 0, .bool false]
def nextS (s : St) : Option (Int × St) → St | some (_, s') => s' | none => s
theorem settle_step (A : List Fr) (f : Fr) : settleL (A ++ [{ f with at_ := f.at_ + 1 }]) = popL A f := by
  unfold settleL popL stepFr
  rw [List.getLast?_concat]
  simp only [List.dropLast_concat]
  by_cases h1 : f.at_ + 1 = f.K.length
  · by_cases h2 : f.n - 1 < 1
    · rw [if_pos h1, if_pos h2, if_pos h1, if_pos h2]
    · rw [if_pos h1, if_neg h2, if_pos h1, if_neg h2]
  · rw [if_neg h1, if_neg h1]
set_option maxHeartbeats 2000000 in
theorem mnext {p : Nat} {s : St} (H : Owns w0 w (stkA p s :: R)) (hs : s.ok) :
    Calls Tryd.prog 11 #[.pointer (some ⟨p, 0, none⟩)] w (Ret (nextV (nextF s)) w0 (stkA p (nextS s (nextF s)) :: R)) := by
  have hset := msettle H (topped_ok hs.fr hs.len)
  rw [settle_lower hs.fr] at hset
  have hset' : Calls Tryd.prog 28 #[.pointer (some ⟨p, 0, none⟩)] w (Ret (.tuple #[]) w0 (stkA p s :: R)) := hset
  have Hset := Lib.hid hset'
  clear hset hset' H
  obtain ⟨o, ho⟩ : ∃ o, o = nextF s := ⟨_, rfl⟩
  rw [← ho]
  have Ho := Lib.hid ho
  clear ho
  go_enter Tryd.func11, Tryd.ntmps11
  go_wp2_with fail
  refine Hset.out.mono ?_
  rintro e w1 ⟨rfl, h1⟩
  have HH := Lib.hid h1
  clear Hset
  obtain ⟨a, c, M, hM, h⟩ := stkE h1
  have k2 : w1.cell? ⟨p, 2, none⟩ = some (.int .i64 s.left) := h.cell (j := 2) rfl
  have f2 := h.frozen 2
  obtain ⟨lf, hlf⟩ : ∃ lf, lf = s.left := ⟨_, rfl⟩
  rw [← hlf] at k2
  have hl0 := hs.left
  rw [← hlf] at hl0
  obtain ⟨hl0, hl1⟩ := hl0
  cases hl : s.L.getLast? with
  | none =>
    have hL : s.L = [] := by simpa using hl
    have hMn : M = [] := by rw [hL] at hM; simpa using hM
    subst hMn
    have k0 : w1.cell? ⟨p, 0, none⟩ = some (.slice a 0 c) := h.cell (j := 0) rfl
    have hoE : o = none := by rw [Ho.out, nextF, hl]
    subst hoE
    clear h h1 hl hL hM hs hlf
    go_wp2_with fail
    go_ret2
    exact ⟨rfl, HH.out⟩
  | some f =>
    obtain ⟨A, m, rfl, hmf, hdl⟩ := last_map hM hl
    have hfo := hs.fr f (List.mem_of_getLast? hl)
    obtain ⟨hat, hn1, hfk, hfb, hn2⟩ := hfo
    obtain ⟨q, hq⟩ : ∃ q, q = A.length := ⟨_, rfl⟩
    have h' := h
    rw [show (A ++ [m]).length = q + 1 by rw [List.length_append, hq]; rfl] at h'
    obtain ⟨g, rfl, hqc, k0, g0, g1, g2, gf⟩ := topCells h' (m := m) (by rw [hq]; simp)
    have hql : q ≤ 1000 := by have h1 := hs.len; rw [← hM, List.length_map, List.length_append] at h1; omega
    by_cases hz : lf = 0
    · subst hz
      have hoE : o = none := by rw [Ho.out, nextF, hl]; simp only; rw [if_pos hlf.symm]
      subst hoE
      clear h h' h1 hl hM hs hlf hmf hdl hq gf
      go_wp2_with fail
      go_ret2
      exact ⟨rfl, HH.out⟩
    · have hzf : (lf == 0) = false := beq_eq_false_iff_ne.2 hz
      obtain ⟨kl, hkl⟩ : ∃ kl, kl = f.K.length := ⟨_, rfl⟩
      obtain ⟨j, hj⟩ : ∃ j, j = f.at_ := ⟨_, rfl⟩
      have hsrc : SrcV w1 1 m.kv m.f.K.length (kints .u8 m.f.K) := (allMem mlA (L := A ++ [m]) (x := m) (by simp) (by simp) h).src
      rw [Ml.kv, hmf, ← hkl] at g0 hsrc
      rw [hmf, ← hj] at g2
      rw [← hkl, ← hj] at hat
      have hkl1000 : kl ≤ 1000 := by rw [hkl]; exact hfk
      obtain ⟨kb, ko, kc, ekv, hkc, _, hce⟩ := hsrc.cells (by omega) (by decide)
      have hx := kints_get .u8 f.K (i := j) (by omega)
      obtain ⟨cc, hxe⟩ : ∃ x, x = f.K[j]?.getD 0 := ⟨_, rfl⟩
      rw [← hxe] at hx
      have cx := hce j _ hx
      rw [ekv] at g0
      have hoE : o = some (cc, { s with L := popL (A.map (·.f)) f, left := lf - 1 }) := by
        rw [Ho.out, nextF, hl]
        simp only
        rw [if_neg (by rw [← hlf]; exact hz), hdl, ← hlf, hxe, ← hj, List.getD_eq_getElem?_getD]
      subst hoE
      have hjj : IntKind.i64.wrap ((j : Int) + 1) = (j : Int) + 1 := by rw [IntKind.wrap_i64]; omega
      have gf2 := gf (q * 3 + 2)
      have H3 := Lib.hid h'
      have kp : ∀ k, ((w1.drewN k).setCell ⟨g, q * 3 + 2, none⟩ (.int .i64 ((j : Int) + 1))).cell? ⟨p, 2, none⟩ = some (.int .i64 lf) := fun k => by
        have := (topAt (h'.drewN k) hq (j + 1)).cell (j := 2) rfl
        rw [← hlf] at this
        exact this
      have kf : ∀ k, ((w1.drewN k).setCell ⟨g, q * 3 + 2, none⟩ (.int .i64 ((j : Int) + 1))).frozen? ⟨p, 2, none⟩ = false := fun k => (topAt (h'.drewN k) hq (j + 1)).frozen 2
      have H8 : Hid (∀ k, Owns w0 (((w1.drewN k).setCell ⟨g, q * 3 + 2, none⟩ (.int .i64 ((j : Int) + 1))).setCell ⟨p, 2, none⟩ (.int .i64 (lf - 1))) (stkA p { s with L := A.map (·.f) ++ [{ f with at_ := f.at_ + 1 }], left := lf - 1 } :: R)) := Lib.hid (fun k => by
        refine stkI (v := .slice (some ⟨g, 0, none⟩) (q + 1) c) (M := A ++ [m.put m.f.n (j + 1)]) (by simp [hmf, hj]) ?_
        rw [List.length_append, ← hq]
        exact (topAt (h'.drewN k) hq (j + 1)).set 2 (.int .i64 (lf - 1)))
      have hT : Topped (A.map (·.f) ++ [{ f with at_ := f.at_ + 1 }]) := by
        refine ⟨fun x hx => ?_, ?_, fun x hx => ?_⟩
        · rw [List.dropLast_concat, ← hdl] at hx
          exact hs.fr x ((List.dropLast_sublist _).subset hx)
        · rw [List.length_append, List.length_map, ← hq]
          have := hs.len
          rw [← hM, List.length_map, List.length_append, ← hq] at this
          exact this
        · rw [List.getLast?_concat] at hx
          cases hx
          exact ⟨by show f.at_ + 1 ≤ f.K.length; omega, by show 1 ≤ f.K.length; omega, hfk, hfb, hn1, hn2⟩
      have HT := Lib.hid hT
      have Hres := Lib.hid (settle_step (A.map (·.f)) f)
      clear hT h h' h1 hl hM hs hlf hmf hdl hq gf hkl hj hsrc hce hx hxe hz ekv hjj HH H3
      go_wp2_with fail
      go_quiet (fail)
      go_wp2_with fail
      go_quiet (fail)
      go_wp2_with fail
      refine (msettle (s := { s with L := A.map (·.f) ++ [{ f with at_ := f.at_ + 1 }], left := lf - 1 }) (H8.out _) HT.out).mono ?_
      rintro e w5 ⟨rfl, h5⟩
      have H5 := Lib.hid h5
      clear h5 H8 HT
      go_wp2_with fail
      go_ret2
      refine ⟨rfl, ?_⟩
      have := H5.out
      simp only [Hres.out] at this
      exact this
theorem mleft {p : Nat} {s : St} (H : Owns w0 w (stkA p s :: R)) : Calls Tryd.prog 12 #[.pointer (some ⟨p, 0, none⟩)] w fun e w' => e = .returned (.int .i64 s.left) ∧ w = w' := by
  obtain ⟨a, c, M, hM, h⟩ := stkE H
  have k : w.cell? ⟨p, 2, none⟩ = some (.int .i64 s.left) := h.cell (j := 2) rfl
  clear H h hM
  go_enter Tryd.func12, Tryd.ntmps12
  go_wp2_with fail
  go_ret
  exact ⟨rfl, rfl⟩
theorem mdeep {p : Nat} {s : St} (H : Owns w0 w (stkA p s :: R)) : Calls Tryd.prog 20 #[.pointer (some ⟨p, 0, none⟩)] w fun e w' => e = .returned (.int .i64 s.L.length) ∧ w = w' := by
  obtain ⟨a, c, M, hM, h⟩ := stkE H
  have k : w.cell? ⟨p, 0, none⟩ = some (.slice a s.L.length c) := by rw [← hM, List.length_map]; exact h.cell (j := 0) rfl
  clear H h hM
  go_enter Tryd.func20, Tryd.ntmps20
  go_wp2_with fail
  go_ret
  exact ⟨rfl, rfl⟩
def dryB (s : St) : Bool := decide (0 < s.L.length) && (s.left == 0)
theorem mdry {p : Nat} {s : St} (H : Owns w0 w (stkA p s :: R)) : Calls Tryd.prog 13 #[.pointer (some ⟨p, 0, none⟩)] w fun e w' => e = .returned (.bool (dryB s)) ∧ w = w' := by
  obtain ⟨a, c, M, hM, h⟩ := stkE H
  obtain ⟨l, hl⟩ : ∃ l, l = s.L.length := ⟨_, rfl⟩
  have k : w.cell? ⟨p, 0, none⟩ = some (.slice a l c) := by rw [hl, ← hM, List.length_map]; exact h.cell (j := 0) rfl
  have k2 : w.cell? ⟨p, 2, none⟩ = some (.int .i64 s.left) := h.cell (j := 2) rfl
  obtain ⟨lf, hlf⟩ : ∃ lf, lf = s.left := ⟨_, rfl⟩
  rw [← hlf] at k2
  obtain ⟨b, hb⟩ : ∃ b, b = dryB s := ⟨_, rfl⟩
  rw [← hb]
  rw [dryB, ← hl, ← hlf] at hb
  have Hb := Lib.hid hb
  clear H h hM hl hlf hb
  by_cases h0 : l = 0
  · subst h0
    go_enter Tryd.func13, Tryd.ntmps13
    go_wp2_with fail
    go_ret
    exact ⟨by rw [Hb.out]; rfl, rfl⟩
  · have hl0 : 0 < l := by omega
    have hd : decide ((0 : Int) < (l : Int)) = true := decide_eq_true (by omega)
    clear h0
    go_enter Tryd.func13, Tryd.ntmps13
    go_wp2_with fail
    go_ret
    exact ⟨by rw [Hb.out]; simp [hl0], rfl⟩
theorem mdrop {p : Nat} {s : St} (H : Owns w0 w (stkA p s :: R)) : Calls Tryd.prog 23 #[.pointer (some ⟨p, 0, none⟩)] w (Ret (.tuple #[]) w0 (stkA p { s with L := [] } :: R)) := by
  obtain ⟨a, c, M, hM, h⟩ := stkE H
  have k := h.cell (j := 0) rfl
  have f := h.frozen 0
  have h2 := (h.set 0 (.slice none 0 0))
  have H2 := Lib.hid (stkI (s := { s with L := [] }) (v := .slice none 0 0) (M := []) rfl (((allNil mlA ((h2.ord [2, 1]).drop.drop)).rowNil 56 3).ord [2]))
  clear H h hM h2
  go_enter Tryd.func23, Tryd.ntmps23
  go_wp2_with fail
  go_end0
  exact ⟨rfl, H2.out⟩
theorem mrefuel {p : Nat} {s : St} (H : Owns w0 w (stkA p s :: R)) : Calls Tryd.prog 24 #[.pointer (some ⟨p, 0, none⟩)] w (Ret (.tuple #[]) w0 (stkA p { s with left := s.fuel } :: R)) := by
  obtain ⟨a, c, M, hM, h⟩ := stkE H
  have k1 : w.cell? ⟨p, 1, none⟩ = some (.int .i64 s.fuel) := h.cell (j := 1) rfl
  have k2 : w.cell? ⟨p, 2, none⟩ = some (.int .i64 s.left) := h.cell (j := 2) rfl
  have f := h.frozen 2
  have H2 := Lib.hid (stkI (s := { s with left := s.fuel }) hM (h.set 2 (.int .i64 s.fuel)))
  clear H h hM
  go_enter Tryd.func24, Tryd.ntmps24
  go_wp2_with fail
  go_end0
  exact ⟨rfl, H2.out⟩
end
end Go.Proofs.YtkgngcibjkkhkaaDoor
