/- What the statements share: their arguments; parts of a list put behind one another. -/
import Derived.Test.YtcdoomlagmddcaaGreatDoorBK
import Derived.Test.YtcdoomlagmddcaaGreatDoorRead
import Derived.Test.YtcdoomlagmddcaaGreatDoorKa
import Derived.Test.YtcdoomlagmddcaaGreatDoorRows
namespace Go.Proofs.YtcdoomlagmddcaaGreatDoor
open Go Go.RowKit Go.Fol
set_option linter.unusedVariables false
set_option linter.unusedSimpArgs false
theorem arg_lines {w : World} {v : Value} (h : Arg Tryz.prog w 22 v) : ∃ (L : Ls) (la : Option Addr) (lc : Nat), v = .slice la L.length lc ∧ SrcV w 1 (.slice la L.length lc) L.length (lstrs L) ∧ L.length ≤ lc ∧ L.length * 16 ≤ 140737488351232 ∧ (∀ x ∈ L, x.length ≤ 140737488355328) := by
  obtain ⟨l, hs, hn, hx⟩ := arg_strs Tryz.underlying22 Tryz.underlying9 (by kernel_rfl) (by kernel_rfl) h
  obtain ⟨la, lc, rfl⟩ := hs.form
  have e : (l.map (·.data.toList)).map bs = l := by
    rw [List.map_map]
    conv => rhs; rw [← List.map_id l]
    exact List.map_congr_left (fun x _ => (bs_of x).symm)
  have el : (l.map (·.data.toList)).length = l.length := by simp
  refine ⟨l.map (·.data.toList), la, lc, by rw [el], ?_, ?_, by rw [el]; exact hn, fun x hx' => ?_⟩
  · rw [el, lstrs, e]; exact hs
  · rw [el]; exact SrcV.capLe hs
  · obtain ⟨y, hy, rfl⟩ := List.mem_map.1 hx'
    have := hx y hy
    have e2 : y.data.toList.length = y.size := Array.length_toList
    omega
theorem LightP.buf {L : Ls} (h : LightP L) (hne : L ≠ []) : BufI L := ⟨hne, h.lf, by have := h.bulk; omega⟩
section
variable {w0 w : World} {R : List Asrt}
theorem rdl_old {v : Value} {L : Ls} (h : SrcV w0 1 v L.length (lstrs L)) : RdL w0 R v L := Reads.old h
theorem rdl_nil : RdL w0 R (.slice none 0 0) [] := Reads.nil
theorem rdl_pre {la : Option Addr} {n lc : Nat} {L : Ls} (hn : n = L.length) (h : RdL w0 R (.slice la n lc) L) {a : Nat} (ha : a ≤ n) : RdL w0 R (.slice la a lc) (L.take a) := by
  subst hn
  have h1 := Reads.pre h ha
  unfold RdL
  rw [List.length_take, Nat.min_eq_left ha, show lstrs (L.take a) = (lstrs L).take a by simp [lstrs, strs, List.map_take]]
  exact h1
theorem rdl_post {la la2 : Option Addr} {n lc : Nat} {L : Ls} (hn : n = L.length) (h : RdL w0 R (.slice la n lc) L) {d : Nat} (hd : d ≤ n) (h2 : (if lc = d then la else Option.map (fun x => x.add d) la) = la2) : RdL w0 R (.slice la2 (n - d) (lc - d)) (L.drop d) := by
  subst hn
  have h1 := Reads.post h hd h2
  unfold RdL
  rw [List.length_drop, show lstrs (L.drop d) = (lstrs L).drop d by simp [lstrs, strs, List.map_drop]]
  exact h1
/-- One list behind another, in memory. -/
theorem lapp {s x : Value} {n m : Nat} {A B : Ls} (hn : n = A.length) (hm : m = B.length) (H : Owns w0 w (row_str s n (lstrs A) :: R)) (hv : RdL w0 R x B) (h : n + m ≤ 100000) :
    ∃ (v' : Value) (w' : World), (∀ ty, (Builtin.append_ #[22, 22] ty #[s, x]).run Tryz.prog w = .ok v' w') ∧ Owns w0 w' (row_str v' (A ++ B).length (lstrs (A ++ B)) :: R) := by
  subst hn hm
  obtain ⟨v', w', hr, h2⟩ := app_str H hv (lstrs_one B) (by unfold maxLen; omega) (by omega)
  rw [← lstrs_append, ← List.length_append] at h2
  exact ⟨v', w', hr, h2⟩
end
end Go.Proofs.YtcdoomlagmddcaaGreatDoor
