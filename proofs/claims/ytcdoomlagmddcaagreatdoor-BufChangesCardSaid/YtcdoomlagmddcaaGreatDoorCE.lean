/- Piece tables: Delete. -/
import Derived.Test.YtcdoomlagmddcaaGreatDoorCD
namespace Go.Proofs.YtcdoomlagmddcaaGreatDoor
open Go Go.RowKit Go.Fol
attribute [local go_sem ↓] Go.wp_at_zero Go.wp_at_succ
set_option linter.unusedVariables false
set_option linter.unusedSimpArgs false
set_option maxRecDepth 100000
theorem cut_ok {T : Tb} {L' : List Pc} {off i : Nat} (hT : T.ok) (hc : CutR T.first T.added T.L off i L') (hl : T.L.length ≤ 90000) : ({ T with L := L' } : Tb).ok := by
  refine ⟨hc.ok, ?_, hT.fl, hT.al, ?_, hT.ed, hT.sz, hT.most⟩
  · show T.size = (txs T.first T.added L').length
    rw [hT.size, txs_split T.first T.added L' i, hc.pre, hc.post, List.take_append_drop]; rfl
  · have := hc.len; show L'.length ≤ 100000; omega
section
variable {w0 w : World} {R : List Asrt}
theorem cdel_out {p : Nat} {T : Tb} (off n : Int) (H : Owns w0 w (tabA p T :: R)) (hT : T.ok) (h : reachB T off n = false) :
    Calls Tryz.prog 54 #[.pointer (some ⟨p, 0, none⟩), .int .i64 off, .int .i64 n] w (Ret (.int .i64 20) w0 (tabA p T :: R)) := by
  obtain ⟨v, aa, ac, h0⟩ := tabE H
  have hr := creach off n h0 hT.sz
  rw [h] at hr
  have Hr := Lib.hid hr
  have H1 := Lib.hid H
  clear H h0 hr hT h
  go_enter Tryz.func54, Tryz.ntmps54
  go_wp2_with (go_at_call 60; refine Hr.out.mono ?_; rintro e w' ⟨rfl, rfl⟩)
  go_ret
  exact ⟨rfl, H1.out⟩
theorem cdel_nil {p : Nat} {T : Tb} (off : Int) (H : Owns w0 w (tabA p T :: R)) (hT : T.ok) (h : reachB T off 0 = true) :
    Calls Tryz.prog 54 #[.pointer (some ⟨p, 0, none⟩), .int .i64 off, .int .i64 0] w (Ret (.int .i64 0) w0 (tabA p T :: R)) := by
  obtain ⟨v, aa, ac, h0⟩ := tabE H
  have hr := creach off 0 h0 hT.sz
  rw [h] at hr
  have Hr := Lib.hid hr
  have H1 := Lib.hid H
  clear H h0 hr hT h
  go_enter Tryz.func54, Tryz.ntmps54
  go_wp2_with (go_at_call 60; refine Hr.out.mono ?_; rintro e w' ⟨rfl, rfl⟩)
  go_ret
  exact ⟨rfl, H1.out⟩
/-- What is between two cuts is taken out. -/
theorem del_step {p v : Nat} {aa : Option Addr} {ac : Nat} {T T1 : Tb} {L1 L2 : List Pc} {i j off n : Nat} (h2 : Owns w0 w (tobj p v T1 aa ac :: brow aa ac T.added :: pcvec v L2 :: R)) (hT : T.ok) (hc1 : CutR T.first T.added T.L off i L1) (hc2 : CutR T.first T.added L1 (off + n) j L2) (hn : 0 < n) (h : off + n ≤ T.size) (hl : T.L.length ≤ 80000) :
    IntKind.i64.wrap ((j : Int) - i) = (j : Int) - i ∧ (∃ L' : List Pc, ((∀ q ∈ L', PcOk T.first T.added q) ∧ txs T.first T.added L' = T.tx.take off ++ T.tx.drop (off + n) ∧ L'.length ≤ T.L.length + 2) ∧
      Calls Tryz.prog 77 #[.pointer (some ⟨v, 0, none⟩), .int .i64 i, .int .i64 ((j : Int) - i)] w (RetX (fun d : Value => d) w0 (fun d => tobj p v T1 aa ac :: brow aa ac T.added :: pcvec v L' :: R))) := by
  have hlen : (txs T.first T.added T.L).length ≥ off + n := by have := hT.size; unfold Tb.tx at this; omega
  obtain ⟨hij, htx⟩ := del_two hc1 hc2 hlen
  have hl1 := hc1.len
  have hl2 := hc2.len
  have hj := hc2.le
  have hlt : i < j := by
    rcases Nat.lt_or_ge i j with h' | h'
    · exact h'
    · have e : i = j := by omega
      subst e
      have h3 := congrArg List.length htx
      rw [List.take_append_drop] at h3
      have h4 := congrArg List.length (txs_split T.first T.added L2 i)
      rw [hc2.pre, hc2.post, List.take_append_drop] at h4
      have h5 : txs T.first T.added L1 = txs T.first T.added T.L := by rw [txs_split T.first T.added L1 i, hc1.pre, hc1.post, List.take_append_drop]
      rw [h5] at h4
      rw [h4, List.length_append, List.length_take, List.length_drop] at h3
      omega
  refine ⟨by rw [IntKind.wrap_i64]; omega, L2.take i ++ L2.drop j, ⟨fun q hq => ?_, htx, ?_⟩, ?_⟩
  · rcases List.mem_append.1 hq with hq | hq
    · exact hc2.ok q (List.mem_of_mem_take hq)
    · exact hc2.ok q (List.mem_of_mem_drop hq)
  · rw [List.length_append, List.length_take, List.length_drop]; omega
  · refine (o_delete_pc i (j - i) ((j : Int) - i) (h2.ord [2]) (pcs_one L2) (by omega) (by omega) (by omega) (by omega) (by omega)).mono ?_
    rintro e w' ⟨d, rfl, h3⟩
    refine ⟨d, rfl, ?_⟩
    have h4 := h3.p1.drop
    rw [flat_take pcf_len, flat_drop pcf_len, ← flat_append, show i + (j - i) = j by omega] at h4
    rw [pcvec, List.length_append, List.length_take, List.length_drop, show min i L2.length + (L2.length - j) = L2.length - (j - i) by omega]
    exact h4.ord [1, 1]
set_option maxHeartbeats 4000000 in
theorem cdel {p : Nat} {T : Tb} (off n : Nat) (H : Owns w0 w (tabA p T :: R)) (hT : T.ok) (h : off + n ≤ T.size) (hn : 0 < n) (hl : T.L.length ≤ 80000) :
    Calls Tryz.prog 54 #[.pointer (some ⟨p, 0, none⟩), .int .i64 off, .int .i64 n] w (RetX (fun _ : Tb => .int .i64 0) w0 (fun T' => Asrt.pure (DelR T off n T') :: tabA p T' :: R)) := by
  obtain ⟨v, aa, ac, h0⟩ := tabE H
  have hre : reachB T off n = true := (reach_iff T off n).2 ⟨by omega, by omega, by omega, by omega⟩
  have hr := creach off n h0 hT.sz
  rw [hre] at hr
  have hcut := ccutv off h0 hT (by omega)
  have Hr := Lib.hid hr
  have Hcut := Lib.hid hcut
  have HT := Lib.hid hT
  have hsz : T.size ≤ 1000000 := hT.sz
  have hed : T.edits ≤ 100000 := hT.ed
  have hn0 : ((n : Int) == 0) = false := by simp; omega
  clear H h0 hr hcut hre hT
  go_enter Tryz.func54, Tryz.ntmps54
  go_upto_region 5 with (go_at_call 60; refine Hr.out.mono ?_; rintro e w' ⟨rfl, rfl⟩)
  go_wp2_with fail
  refine Hcut.out.mono ?_
  rintro e w1 ⟨⟨i, L1⟩, rfl, h1⟩
  obtain ⟨hc1, h1⟩ := h1.pureE
  dsimp only at hc1 h1 ⊢
  have hT1 := cut_ok HT.out hc1 (by omega)
  have k2 : w1.cell? ⟨p, 2, none⟩ = some (.pointer (some ⟨v, 0, none⟩)) := h1.cell (j := 2) rfl
  have hwn : IntKind.i64.wrap ((off : Int) + n) = (off : Int) + n := by rw [IntKind.wrap_i64]; omega
  have hcut := ccutv (T := { T with L := L1 }) (off + n) h1.drew hT1 (by show off + n ≤ T.size; omega)
  rw [Int.natCast_add] at hcut
  have Hcut2 := Lib.hid hcut
  have HC1 := Lib.hid hc1
  have hi1 := hc1.le
  have hl1 := hc1.len
  clear h1 hcut Hr Hcut hc1 hT1
  go_upto_region 6 with (fail)
  go_region_held3 (fun w' => w'.cell? ⟨p, 2, none⟩ = some (.pointer (some ⟨v, 0, none⟩))) (first | go_keep | exact t0)
    (first
      | (go_at_call 76; refine Hcut2.out.mono ?_; rintro e w2 ⟨⟨j, L2⟩, rfl, h2⟩; obtain ⟨hc2, h2⟩ := h2.pureE; dsimp only at hc2 h2 ⊢; have t0 : w2.cell? ⟨p, 2, none⟩ = some (.pointer (some ⟨v, 0, none⟩)) := h2.cell (j := 2) rfl; obtain ⟨hwd, L', hL', hdel⟩ := del_step h2 HT.out HC1.out hc2 hn h hl; have Hdel := Lib.hid hdel; have HL' := Lib.hid hL'; clear h2 hdel hL' hc2)
      | (go_at_call 77; refine Hdel.out.mono ?_; rintro e w3 ⟨d, rfl, h3⟩; have t0 : w3.cell? ⟨p, 2, none⟩ = some (.pointer (some ⟨v, 0, none⟩)) := h3.cell (j := 2) rfl; have H3 := Lib.hid h3; clear h3))
  obtain ⟨z, hz⟩ : ∃ z : Nat, (T.size : Int) - n = (z : Int) := ⟨T.size - n, by omega⟩
  have q3 : w3.cell? ⟨p, 3, none⟩ = some (.int .i64 T.size) := H3.out.cell (j := 3) rfl
  have f3 : w3.frozen? ⟨p, 3, none⟩ = false := H3.out.frozen 3
  have q5 : w3.cell? ⟨p, 5, none⟩ = some (.int .i64 T.edits) := H3.out.cell (j := 5) rfl
  have f5 : w3.frozen? ⟨p, 5, none⟩ = false := H3.out.frozen 5
  have hw3 : IntKind.i64.wrap (z : Int) = (z : Int) := by rw [IntKind.wrap_i64]; omega
  have hw5 : IntKind.i64.wrap ((T.edits : Int) + 1) = (T.edits : Int) + 1 := by rw [IntKind.wrap_i64]; omega
  have h4 := (H3.out.set 3 (.int .i64 (z : Int))).set 5 (.int .i64 ((T.edits : Int) + 1))
  have h5 := tabI (T := ⟨T.first, T.added, L', z, T.most, T.edits + 1⟩) h4
  have hD : DelR T off n ⟨T.first, T.added, L', z, T.most, T.edits + 1⟩ := ⟨HL'.out.2.1, HL'.out.1, rfl, rfl, HL'.out.2.2, by show z + n = T.size; omega, rfl, rfl⟩
  have HD := Lib.hid hD
  have H5 := Lib.hid h5
  clear h4 h5 hD H3 Hdel Hcut2 HC1 HT HL'
  go_wp2_with fail
  go_ret
  exact ⟨_, rfl, H5.out.pureI HD.out⟩
theorem cdel0 {p : Nat} {T : Tb} (off n : Nat) (H : Owns w0 w (tabA p T :: R)) (hT : T.ok) (h : off + n ≤ T.size) (hl : T.L.length ≤ 80000) (he : T.edits ≤ 90000) :
    Calls Tryz.prog 54 #[.pointer (some ⟨p, 0, none⟩), .int .i64 off, .int .i64 n] w (RetX (fun _ : Tb => .int .i64 0) w0 (fun T' => Asrt.pure (Edit T (T.tx.take off ++ T.tx.drop (off + n)) (if n = 0 then 0 else 1) 0 T') :: tabA p T' :: R)) := by
  by_cases hn : n = 0
  · subst hn
    have hre : reachB T off 0 = true := (reach_iff T off 0).2 ⟨by omega, by omega, by omega, by omega⟩
    refine (cdel_nil off H hT hre).mono ?_
    rintro e w' ⟨rfl, h1⟩
    exact ⟨T, rfl, h1.pureI ⟨by simp, hT, rfl, by simp, by simp, by simp⟩⟩
  · refine (cdel off n H hT h (by omega) hl).mono ?_
    rintro e w' ⟨T', rfl, h1⟩
    obtain ⟨hd, h1⟩ := h1.pureE
    exact ⟨T', rfl, h1.pureI ⟨hd.tx, hd.ok hT (by omega) he h, hd.most, by rw [hd.added]; exact Nat.le_refl _, by rw [if_neg hn]; exact hd.len, by rw [if_neg hn]; exact hd.edits⟩⟩
end
end Go.Proofs.YtcdoomlagmddcaaGreatDoor
