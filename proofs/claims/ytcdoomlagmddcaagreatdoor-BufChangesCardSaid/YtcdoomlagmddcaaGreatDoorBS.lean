/- slices.All of strings. -/
import Derived.Test.YtcdoomlagmddcaaGreatDoorBC
import Derived.Test.YtcdoomlagmddcaaGreatDoorKv
import Derived.Test.YtcdoomlagmddcaaGreatDoorKa
namespace Go.Proofs.YtcdoomlagmddcaaGreatDoor
open Go Go.RowKit Go.Fol
attribute [local go_sem] Oper.semAt_some
set_option linter.unusedVariables false
set_option linter.unusedSimpArgs false
set_option maxRecDepth 100000 in
set_option maxHeartbeats 2000000 in
theorem seq_all_str (b : Nat) (sv : Value) (n : Nat) (xs : List Value) (w : World) (h : VecAt w 22 9 1 b sv n xs) :
    SeqList Tryz.prog 81 #[.pointer (some ⟨b, 0, none⟩)] (fun k => #[.int .i64 k, xs[k]?.getD undef]) (vfoot b sv) n w := by
  intro l J Jx W hk0 hsz hJ hJx hY h0
  have hW : VecAt W 22 9 1 b sv n xs := keepB_vec h hk0 (fun c hc => hc)
  have hbox := hW.cell
  have hn63 := row_n63 hW.row
  obtain ⟨a, c, rfl⟩ := row_slice hW.row
  refine callsIn_of_wp Tryz.func81 rfl trivial ?_ rfl
  simp only [Tryz.ntmps81, List.size_toArray, List.length_cons, List.length_nil, Nat.reduceAdd, Nat.reduceSub, Array.replicate_succ, Array.replicate_zero, List.push_toArray, List.append_toArray, List.nil_append, List.cons_append]
  have HW := Lib.hid hW.row
  have HJ := Lib.hid hJ
  have HJx := Lib.hid hJx
  have HY := Lib.hid hY
  clear h hk0 hW hJ hJx hY
  gi_wp2
  gi_loopw [7] (fun i wr => ∃ k : Nat, k ≤ n ∧ i = .int .i64 k ∧ J k wr ∧ KeepB (vfoot b (.slice a n c)) W wr) (fun i _ => n - (intOf i).toNat)
  case atStart => exact ⟨0, Nat.zero_le _, rfl, h0, fun _ _ => rfl⟩
  case round =>
    obtain ⟨k, hk, rfl, hJs, hkp⟩ := hrel
    by_cases hlt : k < n
    · have hrow := keepB_row HW.out hkp (fun b' hb' => by simp [vfoot, hb'])
      obtain ⟨g, rfl, hnc, hcx⟩ := row_cell1 hrow hlt
      obtain ⟨fn, tmps, assign, body, hy, hR⟩ := HY.out k wr hlt hJs
      have Hkp := Lib.hid hkp
      clear hkp hrow
      generalize xs[k]?.getD undef = x at *
      gi_wp2
      refine hR.mono ?_
      rintro e W3 (⟨rfl, hJ3, hk3⟩ | ⟨rfl, hJx3⟩)
      · gi_wp2
        go_roundw
        case rel => exact ⟨k + 1, by omega, by simp, hJ3, keepB_t Hkp.out hk3⟩
        case measure => simp [intOf]; omega
      · gi_wp2
        refine bodyPost_ret (results_none rfl _ _ _) rfl ?_
        exact ⟨⟨_, rfl⟩, .inr hJx3⟩
    · obtain rfl : k = n := by omega
      gi_wp2
      go_end0
      exact ⟨⟨_, rfl⟩, .inl hJs⟩
section
variable {w0 w : World} {R : List Asrt}
theorem Owns.vecMake {vt e : TypeId} {k b n : Nat} {sv : Value} {xs : List Value} (H : Owns w0 w (Asrt.obj b (.cells #[sv] vt (0, 0)) :: Asrt.row e k sv n xs :: R)) : VecAt w vt e k b sv n xs ∧ Owns w0 w (Asrt.vec vt e k b n xs :: R) := by
  obtain ⟨hc, F, ⟨rfl, hF⟩, hs, G, ⟨rfl, hG⟩, ht, hr⟩ := H
  have hv : VecAt w vt e k b sv n xs := ⟨hF, hG, fun h => (ht b (by simp [h])).2 (by simp)⟩
  refine ⟨hv, hc, vfoot b sv, ⟨sv, rfl, hv⟩, fun c hcm => ?_, hr.mono (fun c h1 _ => ⟨h1.1.1, fun h2 => ?_⟩)⟩
  · simp only [vfoot, List.mem_cons] at hcm
    rcases hcm with rfl | h
    · exact hs _ (by simp)
    · exact (ht c h).1
  · simp only [vfoot, List.mem_cons] at h2
    rcases h2 with rfl | h
    · exact h1.1.2 (by simp)
    · exact h1.2 h
theorem sall (v : Value) (n : Nat) (xs : List Value) (H : Owns w0 w (Asrt.row 9 1 v n xs :: R)) :
    Calls Tryz.prog 57 #[v] w (RetX (fun b : Nat => .func (.func 81) #[] #[.pointer (some ⟨b, 0, none⟩)]) w0 (fun b => Asrt.vec 22 9 1 b n xs :: R)) := by
  have h1 := H.alloc #[v] 22
  obtain ⟨a, c, rfl⟩ := row_slice H.row
  have H1 := Lib.hid h1
  clear H h1
  go_enter Tryz.func57, Tryz.ntmps57
  go_wp2_with fail
  go_ret
  exact ⟨_, rfl, (Owns.vecMake H1.out).2⟩
theorem o_seq_all_str {b n : Nat} {xs : List Value} (H : Owns w0 w (Asrt.vec 22 9 1 b n xs :: R)) : ∃ S, SeqList Tryz.prog 81 #[.pointer (some ⟨b, 0, none⟩)] (fun k => #[.int .i64 k, xs[k]?.getD undef]) S n w ∧ Owns w0 w (Asrt.same w S :: R) := by
  obtain ⟨sv, hv, hu⟩ := H.vec
  exact ⟨_, seq_all_str b sv n xs w hv, H.toSame hu⟩
end
end Go.Proofs.YtcdoomlagmddcaaGreatDoor
