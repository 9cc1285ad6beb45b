/- A list of one change, applied: the reference's own. -/
import Derived.Test.YtcdoomlagmddcaaGreatDoorBO
namespace Go.Proofs.YtcdoomlagmddcaaGreatDoor
open Go Go.RowKit Go.Fol
attribute [local go_sem ↓] Go.wp_at_zero Go.wp_at_succ
set_option linter.unusedVariables false
set_option linter.unusedSimpArgs false
attribute [-go_sem] Go.Builtin.append_
set_option maxRecDepth 100000
section
variable {w0 w : World} {R : List Asrt}
set_option maxHeartbeats 4000000 in
theorem rapply {la oa na : Option Addr} {n lc a k oc m nc B : Nat} {L N : Ls} (hn : n = L.length) (hm : m = N.length) (hak : a + k ≤ n) (hpos : 0 < n - k + m) (hn1 : n ≤ 10000) (hm1 : m ≤ 10000) (H : Owns w0 w R) (hB : Asrt.obj B (.cells #[.int .i64 a, .slice oa k oc, .slice na m nc] 42 (0, 0)) ∈ R) (hl : RdL w0 R (.slice la n lc) L) (ho : RdL w0 R (.slice oa k oc) ((L.drop a).take k)) (hN : RdL w0 R (.slice na m nc) N) :
    Calls Tryz.prog 19 #[.slice la n lc, .slice (some ⟨B, 0, none⟩) 1 1] w (RetX (fun v : Value => .tuple #[v, .bool true]) w0 (fun v => row_str v (repL L a k N).length (lstrs (repL L a k N)) :: R)) := by
  obtain ⟨s1, w1, hr1, h1⟩ := lapp (s := .slice none 0 0) (n := 0) (A := []) (m := n) (B := L) rfl hn (H.rowNil 9 1) hl (by omega)
  rw [List.nil_append, ← hn] at h1
  obtain ⟨a1, c1, rfl⟩ := row_slice h1.row
  have hrd : RdL w0 (row_str (.slice a1 n c1) n (lstrs L) :: R) (.slice a1 n c1) L := by subst hn; exact Reads.row (e := 9) List.mem_cons_self
  have C := Lib.hid (fun wr (h : Owns w0 wr (row_str (.slice a1 n c1) n (lstrs L) :: R)) => rone hn hm hak hpos hn1 hm1 h hrd ho.cons hN.cons)
  have HK := Lib.hid (fun wr (h : Owns w0 wr (row_str (.slice a1 n c1) n (lstrs L) :: R)) => (⟨((h.drop).mem hB).cell (j := 0) rfl, ((h.drop).mem hB).cell (j := 1) rfl, ((h.drop).mem hB).cell (j := 2) rfl⟩ : wr.cell? ⟨B, 0, none⟩ = some (.int .i64 a) ∧ wr.cell? ⟨B, 1, none⟩ = some (.slice oa k oc) ∧ wr.cell? ⟨B, 2, none⟩ = some (.slice na m nc)))
  have H1 := Lib.hid h1
  clear H hl ho hN hn hm hak hpos hn1 hm1 h1 hrd hB
  go_enter Tryz.func19, Tryz.ntmps19
  go_wp2_with fail
  go_loopw [6, 7] (fun ov q wr => (q = .int .i64 0 ∧ ov = .slice a1 n c1 ∧ Owns w0 wr (row_str (.slice a1 n c1) n (lstrs L) :: R)) ∨ (q = .int .i64 1 ∧ Owns w0 wr (row_str ov (repL L a k N).length (lstrs (repL L a k N)) :: R))) (fun _ q _ => 1 - (intOf q).toNat)
  case atStart => exact .inl ⟨rfl, rfl, H1.out⟩
  case round =>
    rcases hrel with ⟨rfl, rfl, h⟩ | ⟨rfl, h⟩
    · obtain ⟨k0, k1, k2⟩ := HK.out wr h
      have C2 := Lib.hid (C.out wr h)
      clear h C HK H1 hr1
      go_wp2_with fail
      refine C2.out.mono ?_
      rintro e w5 ⟨v, rfl, h5⟩
      have H5 := Lib.hid h5.p1.drop
      clear h5 C2
      go_wp2_with fail
      go_roundw
      case rel => exact .inr ⟨by go_num, H5.out⟩
      case measure => simp [intOf]
    · have H5 := Lib.hid h
      clear h C HK H1 hr1
      go_wp2_with fail
      go_ret2
      exact ⟨_, rfl, H5.out⟩
set_option maxHeartbeats 4000000 in
theorem rapply_no {la oa na : Option Addr} {n lc a k oc m nc B : Nat} {L N : Ls} (hn : n = L.length) (hm : m = N.length) (hak : a + k ≤ n) (hpos : n - k + m = 0) (hn1 : n ≤ 10000) (hm1 : m ≤ 10000) (H : Owns w0 w R) (hB : Asrt.obj B (.cells #[.int .i64 a, .slice oa k oc, .slice na m nc] 42 (0, 0)) ∈ R) (hl : RdL w0 R (.slice la n lc) L) (ho : RdL w0 R (.slice oa k oc) ((L.drop a).take k)) (hN : RdL w0 R (.slice na m nc) N) :
    Calls Tryz.prog 19 #[.slice la n lc, .slice (some ⟨B, 0, none⟩) 1 1] w (Ret (.tuple #[.slice none 0 0, .bool false]) w0 R) := by
  obtain ⟨s1, w1, hr1, h1⟩ := lapp (s := .slice none 0 0) (n := 0) (A := []) (m := n) (B := L) rfl hn (H.rowNil 9 1) hl (by omega)
  rw [List.nil_append, ← hn] at h1
  obtain ⟨a1, c1, rfl⟩ := row_slice h1.row
  have hrd : RdL w0 (row_str (.slice a1 n c1) n (lstrs L) :: R) (.slice a1 n c1) L := by subst hn; exact Reads.row (e := 9) List.mem_cons_self
  have C := Lib.hid (fun wr (h : Owns w0 wr (row_str (.slice a1 n c1) n (lstrs L) :: R)) => rone_no hn hm hak hpos hn1 hm1 h hrd ho.cons hN.cons)
  have HK := Lib.hid (fun wr (h : Owns w0 wr (row_str (.slice a1 n c1) n (lstrs L) :: R)) => (⟨((h.drop).mem hB).cell (j := 0) rfl, ((h.drop).mem hB).cell (j := 1) rfl, ((h.drop).mem hB).cell (j := 2) rfl⟩ : wr.cell? ⟨B, 0, none⟩ = some (.int .i64 a) ∧ wr.cell? ⟨B, 1, none⟩ = some (.slice oa k oc) ∧ wr.cell? ⟨B, 2, none⟩ = some (.slice na m nc)))
  have H1 := Lib.hid h1
  clear H hl ho hN hn hm hak hpos hn1 hm1 h1 hrd hB
  go_enter Tryz.func19, Tryz.ntmps19
  go_wp2_with fail
  go_loopw [6, 7] (fun ov q wr => (q = .int .i64 0 ∧ ov = .slice a1 n c1 ∧ Owns w0 wr (row_str (.slice a1 n c1) n (lstrs L) :: R)) ∨ (q = .int .i64 1 ∧ False)) (fun _ q _ => 1 - (intOf q).toNat)
  case atStart => exact .inl ⟨rfl, rfl, H1.out⟩
  case round =>
    rcases hrel with ⟨rfl, rfl, h⟩ | ⟨rfl, h⟩
    · obtain ⟨k0, k1, k2⟩ := HK.out wr h
      have C2 := Lib.hid (C.out wr h)
      clear h C HK H1 hr1
      go_wp2_with fail
      refine C2.out.mono ?_
      rintro e w5 ⟨rfl, h5⟩
      have H5 := Lib.hid h5.drop
      clear h5 C2
      go_wp2_with fail
      go_ret2
      exact ⟨rfl, H5.out⟩
    · exact h.elim
end
end Go.Proofs.YtcdoomlagmddcaaGreatDoor
