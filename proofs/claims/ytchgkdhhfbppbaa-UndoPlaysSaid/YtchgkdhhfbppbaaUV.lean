/- The document's Inverse. -/
import Derived.Test.YtchgkdhhfbppbaaUI
namespace Go.Proofs.Ytchgkdhhfbppbaa
open Go Go.RowKit Go.Fol
attribute [local go_sem ↓] Go.wp_at_zero Go.wp_at_succ
set_option linter.unusedVariables false
set_option linter.unusedSimpArgs false
def swp (c : Ch) : Ch := ⟨c.at_, c.na, c.nc, c.oa, c.oc, c.new, c.old⟩
def rinv (L : List Ch) : List Ch := (L.map swp).reverse
theorem rinv_dat (L : List Ch) : datL (rinv L) = invL (datL L) := by
  rw [datL, rinv, invL, List.map_reverse, List.map_map, datL, List.map_map]
  rfl
section
variable {w0 w : World} {R R' : List Asrt}
theorem ChRd.rinv {v v' : Value} {L : List Ch} (h : ChRd w0 R v L) (hr : Reads w0 R 3 v' (rinv L).length (chs (rinv L))) : ChRd w0 R v' (rinv L) := by
  refine ⟨hr, fun c hc => ?_, fun c hc => ?_⟩
  all_goals
    obtain ⟨c', hc', rfl⟩ := List.mem_map.1 (List.mem_reverse.1 hc)
  · exact h.news c' hc'
  · exact h.olds c' hc'
theorem rinv_take {L : List Ch} {k : Nat} {c : Ch} (hk : k < L.length) (h : L[L.length - 1 - k]? = some c) : chs ((Go.Proofs.Ytchgkdhhfbppbaa.rinv L).take k) ++ [.int .i64 c.at_, c.nv, c.ov] = chs ((Go.Proofs.Ytchgkdhhfbppbaa.rinv L).take (k + 1)) := by
  have e : (Go.Proofs.Ytchgkdhhfbppbaa.rinv L)[k]? = some (swp c) := by
    rw [Go.Proofs.Ytchgkdhhfbppbaa.rinv, List.getElem?_reverse (by simpa using hk)]
    simp [h]
  obtain ⟨h1, h2⟩ := List.getElem?_eq_some_iff.1 e
  rw [List.take_succ_eq_append_getElem h1, h2]
  exact chs_snoc _ (swp c)
set_option maxHeartbeats 1000000 in
theorem rinverse {v : Value} {L : List Ch} (H : Owns w0 w R) (h : Reads w0 R 3 v L.length (chs L)) (hl : L.length ≤ 100000) :
    Calls Try.prog 20 #[v] w (RetX (fun x : Value => x) w0 (fun x => row_chg x (rinv L).length (chs (rinv L)) :: R)) := by
  obtain ⟨la, lc, rfl⟩ := (h w H).form
  obtain ⟨n, hn⟩ : ∃ n, n = L.length := ⟨_, rfl⟩
  rw [← hn] at h hl ⊢
  have HH := Lib.hid H
  have Hrd := Lib.hid h
  have Hn := Lib.hid hn
  clear H h hn
  go_enter Try.func20, Try.ntmps20
  go_wp2_with fail
  go_loopw [3, 4] (fun ov q wr => ∃ k : Nat, k ≤ n ∧ q = .int .i64 ((n : Int) - 1 - k) ∧ Owns w0 wr (row_chg ov k (chs ((Go.Proofs.Ytchgkdhhfbppbaa.rinv L).take k)) :: R)) (fun _ q _ => (intOf q + 1).toNat)
  case atStart => exact ⟨0, Nat.zero_le _, by simp, HH.out.rowNil 49 3⟩
  case round =>
    obtain ⟨k, hk, rfl, hr⟩ := hrel
    obtain ⟨oa, oc, rfl⟩ := row_slice hr.row
    have Hr := Lib.hid hr
    by_cases hlt : k < n
    · obtain ⟨ab, ao, ac', e1, hac, _, hace⟩ := (Hrd.out wr hr.drop).cells (by omega) (by decide)
      cases e1
      obtain ⟨j, hj⟩ : ∃ j, j = n - 1 - k := ⟨_, rfl⟩
      have e9 : (n : Int) - 1 - k = (j : Int) := by omega
      have hjn : j < n := by omega
      obtain ⟨c, hga⟩ : ∃ c, L[j]? = some c := ⟨_, List.getElem?_eq_getElem (by have := Hn.out; omega)⟩
      have hit := rinv_take (by rw [← Hn.out]; exact hlt) (by rw [← Hn.out, ← hj]; exact hga)
      have cells : ∀ W, Owns w0 W R → W.cell? ⟨ab, ao + j * 3, none⟩ = some (.int .i64 c.at_) ∧ W.cell? ⟨ab, ao + j * 3 + 1, none⟩ = some c.ov ∧ W.cell? ⟨ab, ao + j * 3 + 2, none⟩ = some c.nv := fun W HW => by
        obtain ⟨ab', ao', ac'', e1, hac, _, hace⟩ := (Hrd.out W HW).cells (by omega) (by decide)
        cases e1
        have g := chs_get hga
        exact ⟨hace _ _ g.1, by rw [Nat.add_assoc]; exact hace _ _ g.2.1, by rw [Nat.add_assoc]; exact hace _ _ g.2.2⟩
      obtain ⟨at_, co, cc, no, nc, old, new⟩ := c
      dsimp only [Ch.ov, Ch.nv, Ch.dat] at *
      obtain ⟨s0, s1, s2⟩ := cells wr.drew hr.drop.drew
      have h4 := (hr.drew.alloc #[.int .i64 at_, .slice no new.length nc, .slice co old.length cc] 49)
      obtain ⟨r0, r1, r2⟩ := cells _ h4.drop.drop
      obtain ⟨s', w5, hrn, h5⟩ := app_chg (x := .slice (some ⟨wr.heap.size, 0, none⟩) 1 1) (m := 1) (vs := [.int .i64 at_, .slice no new.length nc, .slice co old.length cc]) h4.p1 (Reads.obj (b := wr.heap.size) (k := 3) (n := 1) (t := 49) (f := (0, 0)) (cs := #[.int .i64 at_, .slice no new.length nc, .slice co old.length cc]) List.mem_cons_self (by decide) (by decide) (by simp)) (by simp [Value.oneCell']) (by unfold maxLen; omega) (by omega)
      obtain ⟨u0, u1, u2⟩ := cells _ h5.drop.drop
      rw [hit] at h5
      obtain ⟨sa, sc, rfl⟩ := row_slice h5.row
      have H5 := Lib.hid h5
      rw [e9]
      have Hj := Lib.hid hj
      clear hace h4 h5 hit hga hr cells hj e9
      go_wp2_with fail
      go_region_held3 (fun w' => w'.cell? ⟨ab, ao + j * 3, none⟩ = some (.int .i64 at_) ∧ w'.cell? ⟨ab, ao + j * 3 + 1, none⟩ = some (.slice co old.length cc) ∧ w'.cell? ⟨ab, ao + j * 3 + 2, none⟩ = some (.slice no new.length nc)) (first | with_reducible exact ⟨s0, s1, s2⟩ | with_reducible exact ⟨r0, r1, r2⟩ | with_reducible exact ⟨u0, u1, u2⟩ | exact ⟨r0, r1, r2⟩)
        (refine step_append_known rfl _ _ 30 30 rfl _ _ (by simp [Act.eval, Act.put]) (by simp [Act.eval, Act.put]) (hrn 30) ?_)
      clear s0 s1 s2 r0 r1 r2 u0 u1 u2
      go_wp2
      go_roundw
      case rel => exact ⟨k + 1, by omega, by have := Hj.out; congr 1; omega, H5.out.p1.drop⟩
      case measure => simp [intOf]
    · obtain rfl : k = n := by omega
      go_wp2
      go_ret
      refine ⟨_, rfl, ?_⟩
      have h := Hr.out
      have e2 : (Go.Proofs.Ytchgkdhhfbppbaa.rinv L).length = L.length := by simp [Go.Proofs.Ytchgkdhhfbppbaa.rinv]
      rw [List.take_of_length_le (by rw [e2, Hn.out]; exact Nat.le_refl _)] at h
      rw [e2, ← Hn.out]
      exact h
end
end Go.Proofs.Ytchgkdhhfbppbaa
