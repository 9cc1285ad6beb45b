/- A text of lines in memory: Replace. -/
import Derived.Test.YtcdoomlagmddcaaGreatDoorBD
import Derived.Test.YtcdoomlagmddcaaGreatDoorKa
namespace Go.Proofs.YtcdoomlagmddcaaGreatDoor
open Go Go.RowKit Go.Fol
attribute [local go_sem ↓] Go.wp_at_zero Go.wp_at_succ
set_option linter.unusedVariables false
set_option linter.unusedSimpArgs false
set_option maxRecDepth 100000
section
variable {w0 w : World} {R : List Asrt} {p ed ad : Nat} {W L : Ls}
theorem brep_place {la : Option Addr} {n lc : Nat} {at_ m : Int} (hB : BufI W) (h : ¬ (0 ≤ at_ ∧ 0 ≤ m ∧ at_ ≤ W.length ∧ m ≤ W.length - at_)) (H : Owns w0 w (tbufA p (joinL W) ed ad :: R)) :
    Calls Tryz.prog 13 #[.pointer (some ⟨p, 0, none⟩), .int .i64 at_, .int .i64 m, .slice la n lc] w (Ret (.int .i64 20) w0 (tbufA p (joinL W) ed ad :: R)) := by
  have C1 := Lib.hid (bcount hB H)
  have HH := Lib.hid H
  have hcnt := hB.cnt
  obtain ⟨c, hc⟩ : ∃ c, c = W.length := ⟨_, rfl⟩
  rw [← hc] at C1 h hcnt
  clear H hB hc
  go_enter Tryz.func13, Tryz.ntmps13
  go_wp2_with fail
  refine C1.out.mono ?_
  rintro e w' ⟨rfl, rfl⟩
  clear C1
  by_cases h1 : at_ < 0
  · go_wp2_with fail
    go_ret
    exact ⟨rfl, HH.out⟩
  by_cases h2 : m < 0
  · go_wp2_with fail
    go_ret
    exact ⟨rfl, HH.out⟩
  by_cases h3 : (c : Int) < at_
  · go_wp2_with fail
    go_ret
    exact ⟨rfl, HH.out⟩
  have h4 : (c : Int) - at_ < m := by omega
  have hw : IntKind.i64.wrap ((c : Int) - at_) = (c : Int) - at_ := by rw [IntKind.wrap_i64]; omega
  go_wp2_with fail
  go_ret
  exact ⟨rfl, HH.out⟩
theorem brep_broken {la : Option Addr} {n lc a m : Nat} (hB : BufI W) (ham : a + m ≤ W.length) (hn : n = L.length) (hk : RdL w0 R (.slice la n lc) L) (hbr : brokenB L = true) (H : Owns w0 w (tbufA p (joinL W) ed ad :: R)) :
    Calls Tryz.prog 13 #[.pointer (some ⟨p, 0, none⟩), .int .i64 a, .int .i64 m, .slice la n lc] w (Ret (.int .i64 20) w0 (tbufA p (joinL W) ed ad :: R)) := by
  have C1 := Lib.hid (bcount hB H)
  have c2 := tbroken hn H hk.cons
  rw [hbr] at c2
  have C2 := Lib.hid c2
  have HH := Lib.hid H
  have hcnt := hB.cnt
  obtain ⟨c, hc⟩ : ∃ c, c = W.length := ⟨_, rfl⟩
  rw [← hc] at C1 ham hcnt
  clear H hB hc hk hn hbr c2
  have hw : IntKind.i64.wrap ((c : Int) - a) = (c : Int) - a := by rw [IntKind.wrap_i64]; omega
  have h3 : ¬ ((c : Int) < a) := by omega
  have h4 : ¬ ((c : Int) - a < m) := by omega
  go_enter Tryz.func13, Tryz.ntmps13
  go_wp2_with fail
  refine C1.out.mono ?_
  rintro e w' ⟨rfl, rfl⟩
  clear C1
  go_wp2_with fail
  refine C2.out.mono ?_
  rintro e w' ⟨rfl, rfl⟩
  go_wp2_with fail
  go_ret
  exact ⟨rfl, HH.out⟩
/-- What a replacement leaves. -/
def RepP (w0 : World) (R : List Asrt) (p ed ad : Nat) (W : Ls) (a m : Nat) (L : Ls) (e : Ending) (w' : World) : Prop :=
  (4096 < bulkL (repL W a m L) ∧ e = .returned (.int .i64 21) ∧ Owns w0 w' (tbufA p (joinL W) ed ad :: R)) ∨
  (bulkL (repL W a m L) ≤ 4096 ∧ e = .returned (.int .i64 0) ∧ ∃ ed', ed' ≤ ed + 2 ∧ Owns w0 w' (tbufA p (joinL (repL W a m L)) ed' (ad + bulkL L) :: R))
set_option maxHeartbeats 4000000 in
theorem brep_all {la : Option Addr} {n lc a m : Nat} (hB : BufI W) (hM : MaxInt w0) (ham : a + m ≤ W.length) (hn : n = L.length) (hk : RdL w0 R (.slice la n lc) L) (hbr : brokenB L = false) (hm : m = W.length) (hL : L ≠ [])
    (hb : bulkL L ≤ 80000) (had : ad + bulkL L ≤ 90000) (hed : ed ≤ 10000) (H : Owns w0 w (tbufA p (joinL W) ed ad :: R)) :
    Calls Tryz.prog 13 #[.pointer (some ⟨p, 0, none⟩), .int .i64 a, .int .i64 m, .slice la n lc] w (RepP w0 R p ed ad W a m L) := by
  have C1 := Lib.hid (bcount hB H)
  have c2 := tbroken hn H hk.cons
  rw [hbr] at c2
  have C2 := Lib.hid c2
  have C3 := Lib.hid (blines hB hM H)
  have HB := Lib.hid hB
  have Hn := Lib.hid hn
  have Hk := Lib.hid hk
  have Hb := Lib.hid hb
  have Had := Lib.hid had
  have hcnt := hB.cnt
  obtain ⟨c, hc⟩ : ∃ c, c = W.length := ⟨_, rfl⟩
  rw [← hc] at C1 C3 ham hcnt hm
  have Hc := Lib.hid hc
  have hc0 : 0 < c := by rw [hc]; exact List.length_pos_iff.2 hB.ne
  have hncap : n ≤ lc := SrcV.capLe (by have := hk w H.drop; rw [← hn] at this; exact this)
  have hn0 : ¬ n = 0 := fun e => hL (List.eq_nil_of_length_eq_zero (by omega))
  obtain rfl : c = m := hm.symm
  have hca : ¬ c = a := by omega
  have HLne := Lib.hid hL
  clear hL
  clear H hB hc hk hn hbr c2 hb hM had
  have hw : IntKind.i64.wrap ((c : Int) - a) = (c : Int) - a := by rw [IntKind.wrap_i64]; omega
  have h3 : ¬ ((c : Int) < a) := by omega
  have h4 : ¬ ((c : Int) - a < c) := by omega
  go_enter Tryz.func13, Tryz.ntmps13
  go_wp2_with fail
  refine C1.out.mono ?_
  rintro e w' ⟨rfl, rfl⟩
  clear C1
  go_wp2_with fail
  refine C2.out.mono ?_
  rintro e w' ⟨rfl, rfl⟩
  clear C2
  go_wp2_with fail
  refine C3.out.mono ?_
  rintro e w1 ⟨b, rfl, h1⟩
  have H1 := Lib.hid (show Owns w0 w1 (row_str (.slice (some ⟨b, 0, none⟩) c c) c (lstrs W) :: tbufA p (joinL W) ed ad :: R) by rw [Hc.out]; exact h1)
  clear h1 C3
  obtain ⟨d, hd⟩ : ∃ d, d = a + c := ⟨_, rfl⟩
  have hwd : IntKind.i64.wrap ((a : Int) + c) = (d : Int) := by rw [IntKind.wrap_i64]; omega
  have had1 : a ≤ d := by omega
  have had2 : d ≤ c := by omega
  have Hd := Lib.hid hd
  clear hd
  go_upto_region 7 with (fail)
  obtain ⟨t, x, T, hI, ht⟩ := bE H1.out.p1.drew
  have k0 : w1.drew.cell? ⟨p, 0, none⟩ = some (.pointer (some ⟨t, 0, none⟩)) := ht.cell (j := 0) rfl
  have Q1 := Lib.hid (bbytes HB.out (H1.out.p1.drew))
  have Q3 := Lib.hid (tsize Hn.out H1.out.drew Hk.out.cons.cons (by have := Hb.out; omega))
  clear hI ht
  obtain ⟨u, hu⟩ : ∃ u, u = bulkL ((W.drop a).take c) := ⟨_, rfl⟩
  have hlen2 : ((W.drop a).take c).length = d - a := by rw [List.length_take, List.length_drop, ← Hc.out, Hd.out]; omega
  have hrd : RdL w0 (row_str (.slice (some ⟨b, 0, none⟩) c c) c (lstrs W) :: tbufA p (joinL W) ed ad :: R) (.slice (some ⟨b, a, none⟩) (d - a) (c - a)) ((W.drop a).take c) := by
    have h := Reads.mid (Reads.row (w0 := w0) (e := 9) (k := 1) (v := .slice (some ⟨b, 0, none⟩) c c) (n := c) (xs := lstrs W) (R := row_str (.slice (some ⟨b, 0, none⟩) c c) c (lstrs W) :: tbufA p (joinL W) ed ad :: R) List.mem_cons_self) (q := a) (r := d - a) (by omega) hca
    unfold RdL
    rw [hlen2]
    have e2 : (((lstrs W).drop a).take (d - a)) = lstrs ((W.drop a).take c) := by
      rw [show d - a = c by have := Hd.out; omega]
      simp [lstrs, strs, List.map_take, List.map_drop]
    rw [e2] at h
    have e1 : Option.map (fun x : Addr => x.add a) (some ⟨b, 0, none⟩) = some ⟨b, a, none⟩ := by simp [Addr.add_lit]
    rw [e1] at h
    exact h
  have hub : u ≤ bulkL W := by
    have h1 := bulkL_append (W.take a) (W.drop a)
    have h2 := bulkL_append ((W.drop a).take c) ((W.drop a).drop c)
    rw [List.take_append_drop] at h1 h2
    omega
  have q2 := tsize hlen2.symm H1.out.drew hrd (by have := HB.out.bulk; omega)
  rw [← hu] at q2
  have Q2 := Lib.hid q2
  obtain ⟨bw, hbw⟩ : ∃ bw, bw = bulkL W := ⟨_, rfl⟩
  obtain ⟨bl, hbl⟩ : ∃ bl, bl = bulkL L := ⟨_, rfl⟩
  rw [← hbw] at Q1 hub
  rw [← hbl] at Q3
  have hbw2 : bw ≤ 4096 := by rw [hbw]; exact HB.out.bulk
  have hbl2 : bl ≤ 80000 := by rw [hbl]; exact Hb.out
  have hws : IntKind.i64.wrap ((bw : Int) - u) = ((bw - u : Nat) : Int) := by rw [IntKind.wrap_i64]; omega
  have hwt : IntKind.i64.wrap (((bw - u : Nat) : Int) + bl) = ((bw - u + bl : Nat) : Int) := by rw [IntKind.wrap_i64]; omega
  have Hu := Lib.hid hu
  have Hbw := Lib.hid hbw
  have Hbl := Lib.hid hbl
  clear hu hbw hbl q2 hrd hlen2
  refine wp_region_held_drew (S := (fun w' => w'.cell? ⟨p, 0, none⟩ = some (.pointer (some ⟨t, 0, none⟩)))) (by kernel_rfl) (k0) (fun hS0 => ?_)
  refine wpAnyH_take (i := 0) (oi := _) (v := .pointer (some ⟨p, 0, none⟩)) rfl (by kernel_rfl) (by kernel_rfl) (by kernel_rfl) (fun _ _ _ h => h) (Or.inl ⟨by rfl, fun w hSw => ?_⟩) hS0 ?_
  · have x0 := hSw; go_simp
  try simp only [Act.put, List.setIfInBounds_toArray, List.set_cons_zero, List.set_cons_succ, List.getElem_toArray, List.getElem_cons_zero, List.getElem_cons_succ]
  refine wpAnyH_take (i := 2) (oi := _) (v := .slice (some ⟨b, 0, none⟩) c c) rfl (by kernel_rfl) (by kernel_rfl) (by kernel_rfl) (fun _ _ _ h => h) (Or.inl ⟨by rfl, fun w hSw => ?_⟩) hS0 ?_
  · have x0 := hSw; go_simp
  try simp only [Act.put, List.setIfInBounds_toArray, List.set_cons_zero, List.set_cons_succ, List.getElem_toArray, List.getElem_cons_zero, List.getElem_cons_succ]
  refine wpAnyH_take (i := 3) (oi := _) (v := .int .i64 a) rfl (by kernel_rfl) (by kernel_rfl) (by kernel_rfl) (fun _ _ _ h => h) (Or.inl ⟨by rfl, fun w hSw => ?_⟩) hS0 ?_
  · have x0 := hSw; go_simp
  try simp only [Act.put, List.setIfInBounds_toArray, List.set_cons_zero, List.set_cons_succ, List.getElem_toArray, List.getElem_cons_zero, List.getElem_cons_succ]
  refine wpAnyH_take (i := 4) (oi := _) (v := .int .i64 a) rfl (by kernel_rfl) (by kernel_rfl) (by kernel_rfl) (fun _ _ _ h => h) (Or.inl ⟨by rfl, fun w hSw => ?_⟩) hS0 ?_
  · have x0 := hSw; go_simp
  try simp only [Act.put, List.setIfInBounds_toArray, List.set_cons_zero, List.set_cons_succ, List.getElem_toArray, List.getElem_cons_zero, List.getElem_cons_succ]
  refine wpAnyH_take (i := 5) (oi := _) (v := .int .i64 c) rfl (by kernel_rfl) (by kernel_rfl) (by kernel_rfl) (fun _ _ _ h => h) (Or.inl ⟨by rfl, fun w hSw => ?_⟩) hS0 ?_
  · have x0 := hSw; go_simp
  try simp only [Act.put, List.setIfInBounds_toArray, List.set_cons_zero, List.set_cons_succ, List.getElem_toArray, List.getElem_cons_zero, List.getElem_cons_succ]
  refine wpAnyH_take (i := 6) (oi := _) (v := .int .i64 d) rfl (by kernel_rfl) (by kernel_rfl) (by kernel_rfl) (fun _ _ _ h => h) (Or.inl ⟨by rfl, fun w hSw => ?_⟩) hS0 ?_
  · have x0 := hSw; go_simp
  try simp only [Act.put, List.setIfInBounds_toArray, List.set_cons_zero, List.set_cons_succ, List.getElem_toArray, List.getElem_cons_zero, List.getElem_cons_succ]
  refine wpAnyH_take (i := 7) (oi := _) (v := .slice (some ⟨b, a, none⟩) (d - a) (c - a)) rfl (by kernel_rfl) (by kernel_rfl) (by kernel_rfl) (fun _ _ _ h => h) (Or.inl ⟨by rfl, fun w hSw => ?_⟩) hS0 ?_
  · have x0 := hSw; go_simp
  try simp only [Act.put, List.setIfInBounds_toArray, List.set_cons_zero, List.set_cons_succ, List.getElem_toArray, List.getElem_cons_zero, List.getElem_cons_succ]
  refine wpAnyH_take (i := 10) (oi := _) (v := .slice la n lc) rfl (by kernel_rfl) (by kernel_rfl) (by kernel_rfl) (fun _ _ _ h => h) (Or.inl ⟨by rfl, fun w hSw => ?_⟩) hS0 ?_
  · have x0 := hSw; go_simp
  try simp only [Act.put, List.setIfInBounds_toArray, List.set_cons_zero, List.set_cons_succ, List.getElem_toArray, List.getElem_cons_zero, List.getElem_cons_succ]
  refine wpAnyH_ready (rs := [1]) (by kernel_rfl) (by simp) (AllReadyH.cons (o := _) rfl (fun K' hK => ?_) AllReadyH.nil)
  simp only [List.getElem_toArray, List.getElem_cons_zero, List.getElem_cons_succ]
  rw [if_pos (by rfl)]
  go_simp
  refine Q1.out.mono ?_
  rintro e w2 ⟨rfl, rfl⟩
  refine hK.out _ _ (k0) (fun hS1 => ?_)
  clear hK K' hS0
  try simp only [Act.put, List.setIfInBounds_toArray, List.set_cons_zero, List.set_cons_succ, List.getElem_toArray, List.getElem_cons_zero, List.getElem_cons_succ]
  refine wpAnyH_ready (rs := [8]) (by kernel_rfl) (by simp) (AllReadyH.cons (o := _) rfl (fun K' hK => ?_) AllReadyH.nil)
  simp only [List.getElem_toArray, List.getElem_cons_zero, List.getElem_cons_succ]
  rw [if_pos (by rfl)]
  go_simp
  refine Q2.out.mono ?_
  rintro e w2 ⟨rfl, rfl⟩
  refine hK.out _ _ (k0) (fun hS2 => ?_)
  clear hK K' hS1
  try simp only [Act.put, List.setIfInBounds_toArray, List.set_cons_zero, List.set_cons_succ, List.getElem_toArray, List.getElem_cons_zero, List.getElem_cons_succ]
  refine wpAnyH_take (i := 9) (oi := _) (v := .int .i64 (bw - u : Nat)) rfl (by kernel_rfl) (by kernel_rfl) (by kernel_rfl) (fun _ _ _ h => h) (Or.inl ⟨by rfl, fun w hSw => ?_⟩) hS2 ?_
  · have x0 := hSw; go_simp
  try simp only [Act.put, List.setIfInBounds_toArray, List.set_cons_zero, List.set_cons_succ, List.getElem_toArray, List.getElem_cons_zero, List.getElem_cons_succ]
  refine wpAnyH_ready (rs := [11]) (by kernel_rfl) (by simp) (AllReadyH.cons (o := _) rfl (fun K' hK => ?_) AllReadyH.nil)
  simp only [List.getElem_toArray, List.getElem_cons_zero, List.getElem_cons_succ]
  rw [if_pos (by rfl)]
  go_simp
  refine Q3.out.mono ?_
  rintro e w2 ⟨rfl, rfl⟩
  refine hK.out _ _ (k0) (fun hS3 => ?_)
  clear hK K' hS2
  try simp only [Act.put, List.setIfInBounds_toArray, List.set_cons_zero, List.set_cons_succ, List.getElem_toArray, List.getElem_cons_zero, List.getElem_cons_succ]
  refine wpAnyH_take (i := 12) (oi := _) (v := .int .i64 (bw - u + bl : Nat)) rfl (by kernel_rfl) (by kernel_rfl) (by kernel_rfl) (fun _ _ _ h => h) (Or.inl ⟨by rfl, fun w hSw => ?_⟩) hS3 ?_
  · have x0 := hSw; go_simp
  try simp only [Act.put, List.setIfInBounds_toArray, List.set_cons_zero, List.set_cons_succ, List.getElem_toArray, List.getElem_cons_zero, List.getElem_cons_succ]
  refine wpAnyH_take (i := 13) (oi := _) (v := .bool (decide ((4096 : Int) < (bw - u + bl : Nat)))) rfl (by kernel_rfl) (by kernel_rfl) (by kernel_rfl) (fun _ _ _ h => h) (Or.inl ⟨by rfl, fun w hSw => ?_⟩) hS3 ?_
  · have x0 := hSw; go_simp
  try simp only [Act.put, List.setIfInBounds_toArray, List.set_cons_zero, List.set_cons_succ, List.getElem_toArray, List.getElem_cons_zero, List.getElem_cons_succ]
  refine wpAnyH_done (by kernel_rfl) ?_ _
  try dsimp only [Whole]
  have hrb := repL_bulk (W := W) (a := a) (n := c) (L := L) (by rw [← Hc.out]; exact ham)
  rw [← Hu.out, ← Hbw.out, ← Hbl.out] at hrb
  obtain ⟨rb, hrb2⟩ : ∃ rb, rb = bulkL (repL W a c L) := ⟨_, rfl⟩
  rw [← hrb2] at hrb
  rw [show bw - u + bl = rb by omega]
  have Hrb := Lib.hid hrb2
  have Hrbu := Lib.hid hrb
  clear hrb2 hws hwt hrb Q1 Q2 Q3
  by_cases hf : 4096 < rb
  · have hfI : (4096 : Int) < (rb : Int) := by omega
    go_wp2_with fail
    go_ret
    exact .inl ⟨by rw [← Hrb.out]; exact hf, rfl, H1.out.drop.drew⟩
  have hfI : ¬ ((4096 : Int) < (rb : Int)) := by omega
  have hjl : (joinL L).length ≤ bl := by rw [Hbl.out]; exact joinL_bulk L
  have Cj := Lib.hid (ljoin Hn.out H1.out.drew Hk.out.cons.cons (by omega) (by have := len_le_bulk L; rw [← Hbl.out] at this; omega))
  obtain ⟨jn, hjn⟩ : ∃ jn, jn = joinL L := ⟨_, rfl⟩
  rw [← hjn] at Cj hjl
  have Hjn := Lib.hid hjn
  clear hjn k0 hS3
  go_wp2_with fail
  refine Cj.out.mono ?_
  rintro e w3 ⟨rfl, h3⟩
  have H3 := Lib.hid h3.drop
  clear h3 Cj
  obtain ⟨t3, x3, T3, hI3, h4⟩ := bE H3.out
  have k0 : w3.cell? ⟨p, 0, none⟩ = some (.pointer (some ⟨t3, 0, none⟩)) := h4.cell (j := 0) rfl
  have k1 : w3.cell? ⟨p, 1, none⟩ = some (.pointer (some ⟨x3, 0, none⟩)) := h4.cell (j := 1) rfl
  have hlf := (noLF_iff W).2 HB.out.lf
  have hbk := brk_join hlf HB.out.ne
  rw [← Hc.out] at hbk
  have hjw := join_len HB.out.ne
  rw [← Hbw.out] at hjw
  have Clen := Lib.hid (ilen h4.p2)
  obtain ⟨tx, htx⟩ : ∃ tx, tx = joinL W := ⟨_, rfl⟩
  rw [← htx] at Clen hjw H3 hbk
  have Htx := Lib.hid htx
  obtain ⟨s0, hs0⟩ : ∃ s0, s0 = bulkL (W.take a) := ⟨_, rfl⟩
  have hs0b : s0 ≤ bw := by rw [hs0, Hbw.out]; exact bulkL_take_le W a
  have Hs0 := Lib.hid hs0
  have Cst := Lib.hid (istart_in (h := a) (by rw [← htx] at h4; exact h4.p2) (by omega))
  rw [show lstart tx a = s0 by rw [htx, hs0]; exact lstart_lines hlf (by rw [← Hc.out]; omega)] at Cst
  clear htx hs0 hbk hI3 h4 hlf
  have hcz : ((c : Int) == 0) = false := beq_eq_false_iff_ne.2 (by omega)
  have hjl2 : jn.length + 1 = bl := by rw [Hjn.out, Hbl.out]; exact join_len HLne.out
  have Hjb := Lib.hid hjl2
  have hrbl : rb = bl := by rw [Hrb.out, Hbl.out, show a = 0 by omega, Hc.out, rep_all]
  have cp := bput 0 tx.length jn (by omega) (by omega) (by omega) (by have := Had.out; rw [← Hbl.out] at this; omega) (by omega) H3.out
  rw [show tx.take 0 ++ jn ++ tx.drop (0 + tx.length) = joinL (repL W a c L) by rw [show a = 0 by omega, Hc.out, rep_all, Hjn.out, Nat.zero_add, List.drop_length]; simp] at cp
  have cp : Calls Tryz.prog 33 #[.pointer (some ⟨p, 0, none⟩), .int .i64 0, .int .i64 tx.length, .string (bs jn)] w3 _ := cp
  have Cp := Lib.hid cp
  clear cp
  go_wp2_with fail
  refine Cst.out.mono ?_
  rintro e w' ⟨rfl, rfl⟩
  go_wp2_with fail
  refine Clen.out.mono ?_
  rintro e w' ⟨rfl, rfl⟩
  go_wp2_with fail
  refine Cp.out.mono ?_
  rintro e w5 ⟨e5, rfl, h5⟩
  obtain ⟨he5, h5⟩ := h5.pureE
  have H5 := Lib.hid (bufMore (ad' := ad + bl) (by have := Hjb.out; (try simp only [List.length_cons, List.length_append, List.length_nil]); omega) h5)
  clear h5 Cp
  go_wp2_with fail
  go_ret
  refine .inr ⟨by rw [← Hrb.out]; omega, rfl, e5, he5, ?_⟩
  rw [← Hbl.out]
  exact H5.out
set_option maxHeartbeats 4000000 in
theorem brep_noop0 {la : Option Addr} {n lc a m : Nat} (hB : BufI W) (hM : MaxInt w0) (ham : a + m ≤ W.length) (hn : n = L.length) (hk : RdL w0 R (.slice la n lc) L) (hbr : brokenB L = false) (hm : m = 0) (hac : a = W.length) (hL : L = [])
    (hb : bulkL L ≤ 80000) (had : ad + bulkL L ≤ 90000) (hed : ed ≤ 10000) (H : Owns w0 w (tbufA p (joinL W) ed ad :: R)) :
    Calls Tryz.prog 13 #[.pointer (some ⟨p, 0, none⟩), .int .i64 a, .int .i64 m, .slice la n lc] w (RepP w0 R p ed ad W a m L) := by
  have C1 := Lib.hid (bcount hB H)
  have c2 := tbroken hn H hk.cons
  rw [hbr] at c2
  have C2 := Lib.hid c2
  have C3 := Lib.hid (blines hB hM H)
  have HB := Lib.hid hB
  have Hn := Lib.hid hn
  have Hk := Lib.hid hk
  have Hb := Lib.hid hb
  have Had := Lib.hid had
  have hcnt := hB.cnt
  obtain ⟨c, hc⟩ : ∃ c, c = W.length := ⟨_, rfl⟩
  rw [← hc] at C1 C3 ham hcnt hac
  have Hc := Lib.hid hc
  have hc0 : 0 < c := by rw [hc]; exact List.length_pos_iff.2 hB.ne
  have hncap : n ≤ lc := SrcV.capLe (by have := hk w H.drop; rw [← hn] at this; exact this)
  have hn0 : n = 0 := by rw [hn, hL]; rfl
  have hnz : ((n : Int) == 0) = true := by rw [show n = 0 by omega]; rfl
  have Hn0 := Lib.hid hn0
  clear hn0
  have hmc : ((m : Int) == (c : Int)) = false := beq_eq_false_iff_ne.2 (by omega)
  have hmz : ((m : Int) == 0) = true := by rw [show m = 0 by omega]; rfl
  obtain rfl : c = a := hac.symm
  have Hm := Lib.hid hm
  clear hm
  have HLn := Lib.hid hL
  clear hL

  clear H hB hc hk hn hbr c2 hb hM had
  have hw : IntKind.i64.wrap ((c : Int) - c) = (c : Int) - c := by rw [IntKind.wrap_i64]; omega
  have h3 : ¬ ((c : Int) < c) := by omega
  have h4 : ¬ ((c : Int) - c < m) := by omega
  go_enter Tryz.func13, Tryz.ntmps13
  go_wp2_with fail
  refine C1.out.mono ?_
  rintro e w' ⟨rfl, rfl⟩
  clear C1
  go_wp2_with fail
  refine C2.out.mono ?_
  rintro e w' ⟨rfl, rfl⟩
  clear C2
  go_wp2_with fail
  refine C3.out.mono ?_
  rintro e w1 ⟨b, rfl, h1⟩
  have H1 := Lib.hid (show Owns w0 w1 (row_str (.slice (some ⟨b, 0, none⟩) c c) c (lstrs W) :: tbufA p (joinL W) ed ad :: R) by rw [Hc.out]; exact h1)
  clear h1 C3
  obtain ⟨d, hd⟩ : ∃ d, d = c + m := ⟨_, rfl⟩
  have hwd : IntKind.i64.wrap ((c : Int) + m) = (d : Int) := by rw [IntKind.wrap_i64]; omega
  have had1 : c ≤ d := by omega
  have had2 : d ≤ c := by omega
  have Hd := Lib.hid hd
  clear hd
  obtain rfl : c = d := by have := Hd.out; have := Hm.out; omega
  have hwc : IntKind.i64.wrap (c : Int) = (c : Int) := by rw [IntKind.wrap_i64]; omega
  go_upto_region 7 with (fail)
  obtain ⟨t, x, T, hI, ht⟩ := bE H1.out.p1.drew
  have k0 : w1.drew.cell? ⟨p, 0, none⟩ = some (.pointer (some ⟨t, 0, none⟩)) := ht.cell (j := 0) rfl
  have Q1 := Lib.hid (bbytes HB.out (H1.out.p1.drew))
  have Q3 := Lib.hid (tsize Hn.out H1.out.drew Hk.out.cons.cons (by have := Hb.out; omega))
  clear hI ht
  obtain ⟨u, hu⟩ : ∃ u, u = bulkL ((W.drop c).take m) := ⟨_, rfl⟩
  have hlen2 : ((W.drop c).take m).length = 0 := by rw [List.length_take, List.length_drop, ← Hc.out, Hd.out]; omega
  have hrd : RdL w0 (row_str (.slice (some ⟨b, 0, none⟩) c c) c (lstrs W) :: tbufA p (joinL W) ed ad :: R) (.slice (some ⟨b, 0, none⟩) 0 0) ((W.drop c).take m) := by
    have e : (W.drop c).take m = [] := by rw [Hm.out, List.take_zero]
    rw [e]
    exact fun wx hx => .inr ⟨_, _, rfl, Nat.le_refl _, Nat.zero_le _, rfl, fun j u hj => by simp [lstrs, strs] at hj⟩
  have hub : u ≤ bulkL W := by
    have h1 := bulkL_append (W.take c) (W.drop c)
    have h2 := bulkL_append ((W.drop c).take m) ((W.drop c).drop m)
    rw [List.take_append_drop] at h1 h2
    omega
  have q2 := tsize hlen2.symm H1.out.drew hrd (by have := HB.out.bulk; omega)
  rw [← hu] at q2
  have Q2 := Lib.hid q2
  obtain ⟨bw, hbw⟩ : ∃ bw, bw = bulkL W := ⟨_, rfl⟩
  obtain ⟨bl, hbl⟩ : ∃ bl, bl = bulkL L := ⟨_, rfl⟩
  rw [← hbw] at Q1 hub
  rw [← hbl] at Q3
  have hbw2 : bw ≤ 4096 := by rw [hbw]; exact HB.out.bulk
  have hbl2 : bl ≤ 80000 := by rw [hbl]; exact Hb.out
  have hws : IntKind.i64.wrap ((bw : Int) - u) = ((bw - u : Nat) : Int) := by rw [IntKind.wrap_i64]; omega
  have hwt : IntKind.i64.wrap (((bw - u : Nat) : Int) + bl) = ((bw - u + bl : Nat) : Int) := by rw [IntKind.wrap_i64]; omega
  have Hu := Lib.hid hu
  have Hbw := Lib.hid hbw
  have Hbl := Lib.hid hbl
  clear hu hbw hbl q2 hrd hlen2
  refine wp_region_held_drew (S := (fun w' => w'.cell? ⟨p, 0, none⟩ = some (.pointer (some ⟨t, 0, none⟩)))) (by kernel_rfl) (k0) (fun hS0 => ?_)
  refine wpAnyH_take (i := 0) (oi := _) (v := .pointer (some ⟨p, 0, none⟩)) rfl (by kernel_rfl) (by kernel_rfl) (by kernel_rfl) (fun _ _ _ h => h) (Or.inl ⟨by rfl, fun w hSw => ?_⟩) hS0 ?_
  · have x0 := hSw; go_simp
  try simp only [Act.put, List.setIfInBounds_toArray, List.set_cons_zero, List.set_cons_succ, List.getElem_toArray, List.getElem_cons_zero, List.getElem_cons_succ]
  refine wpAnyH_take (i := 2) (oi := _) (v := .slice (some ⟨b, 0, none⟩) c c) rfl (by kernel_rfl) (by kernel_rfl) (by kernel_rfl) (fun _ _ _ h => h) (Or.inl ⟨by rfl, fun w hSw => ?_⟩) hS0 ?_
  · have x0 := hSw; go_simp
  try simp only [Act.put, List.setIfInBounds_toArray, List.set_cons_zero, List.set_cons_succ, List.getElem_toArray, List.getElem_cons_zero, List.getElem_cons_succ]
  refine wpAnyH_take (i := 3) (oi := _) (v := .int .i64 c) rfl (by kernel_rfl) (by kernel_rfl) (by kernel_rfl) (fun _ _ _ h => h) (Or.inl ⟨by rfl, fun w hSw => ?_⟩) hS0 ?_
  · have x0 := hSw; go_simp
  try simp only [Act.put, List.setIfInBounds_toArray, List.set_cons_zero, List.set_cons_succ, List.getElem_toArray, List.getElem_cons_zero, List.getElem_cons_succ]
  refine wpAnyH_take (i := 4) (oi := _) (v := .int .i64 c) rfl (by kernel_rfl) (by kernel_rfl) (by kernel_rfl) (fun _ _ _ h => h) (Or.inl ⟨by rfl, fun w hSw => ?_⟩) hS0 ?_
  · have x0 := hSw; go_simp
  try simp only [Act.put, List.setIfInBounds_toArray, List.set_cons_zero, List.set_cons_succ, List.getElem_toArray, List.getElem_cons_zero, List.getElem_cons_succ]
  refine wpAnyH_take (i := 5) (oi := _) (v := .int .i64 m) rfl (by kernel_rfl) (by kernel_rfl) (by kernel_rfl) (fun _ _ _ h => h) (Or.inl ⟨by rfl, fun w hSw => ?_⟩) hS0 ?_
  · have x0 := hSw; go_simp
  try simp only [Act.put, List.setIfInBounds_toArray, List.set_cons_zero, List.set_cons_succ, List.getElem_toArray, List.getElem_cons_zero, List.getElem_cons_succ]
  refine wpAnyH_take (i := 6) (oi := _) (v := .int .i64 c) rfl (by kernel_rfl) (by kernel_rfl) (by kernel_rfl) (fun _ _ _ h => h) (Or.inl ⟨by rfl, fun w hSw => ?_⟩) hS0 ?_
  · have x0 := hSw; go_simp
  try simp only [Act.put, List.setIfInBounds_toArray, List.set_cons_zero, List.set_cons_succ, List.getElem_toArray, List.getElem_cons_zero, List.getElem_cons_succ]
  refine wpAnyH_take (i := 7) (oi := _) (v := .slice (some ⟨b, 0, none⟩) 0 0) rfl (by kernel_rfl) (by kernel_rfl) (by kernel_rfl) (fun _ _ _ h => h) (Or.inl ⟨by rfl, fun w hSw => ?_⟩) hS0 ?_
  · have x0 := hSw; go_simp
  try simp only [Act.put, List.setIfInBounds_toArray, List.set_cons_zero, List.set_cons_succ, List.getElem_toArray, List.getElem_cons_zero, List.getElem_cons_succ]
  refine wpAnyH_take (i := 10) (oi := _) (v := .slice la n lc) rfl (by kernel_rfl) (by kernel_rfl) (by kernel_rfl) (fun _ _ _ h => h) (Or.inl ⟨by rfl, fun w hSw => ?_⟩) hS0 ?_
  · have x0 := hSw; go_simp
  try simp only [Act.put, List.setIfInBounds_toArray, List.set_cons_zero, List.set_cons_succ, List.getElem_toArray, List.getElem_cons_zero, List.getElem_cons_succ]
  refine wpAnyH_ready (rs := [1]) (by kernel_rfl) (by simp) (AllReadyH.cons (o := _) rfl (fun K' hK => ?_) AllReadyH.nil)
  simp only [List.getElem_toArray, List.getElem_cons_zero, List.getElem_cons_succ]
  rw [if_pos (by rfl)]
  go_simp
  refine Q1.out.mono ?_
  rintro e w2 ⟨rfl, rfl⟩
  refine hK.out _ _ (k0) (fun hS1 => ?_)
  clear hK K' hS0
  try simp only [Act.put, List.setIfInBounds_toArray, List.set_cons_zero, List.set_cons_succ, List.getElem_toArray, List.getElem_cons_zero, List.getElem_cons_succ]
  refine wpAnyH_ready (rs := [8]) (by kernel_rfl) (by simp) (AllReadyH.cons (o := _) rfl (fun K' hK => ?_) AllReadyH.nil)
  simp only [List.getElem_toArray, List.getElem_cons_zero, List.getElem_cons_succ]
  rw [if_pos (by rfl)]
  go_simp
  refine Q2.out.mono ?_
  rintro e w2 ⟨rfl, rfl⟩
  refine hK.out _ _ (k0) (fun hS2 => ?_)
  clear hK K' hS1
  try simp only [Act.put, List.setIfInBounds_toArray, List.set_cons_zero, List.set_cons_succ, List.getElem_toArray, List.getElem_cons_zero, List.getElem_cons_succ]
  refine wpAnyH_take (i := 9) (oi := _) (v := .int .i64 (bw - u : Nat)) rfl (by kernel_rfl) (by kernel_rfl) (by kernel_rfl) (fun _ _ _ h => h) (Or.inl ⟨by rfl, fun w hSw => ?_⟩) hS2 ?_
  · have x0 := hSw; go_simp
  try simp only [Act.put, List.setIfInBounds_toArray, List.set_cons_zero, List.set_cons_succ, List.getElem_toArray, List.getElem_cons_zero, List.getElem_cons_succ]
  refine wpAnyH_ready (rs := [11]) (by kernel_rfl) (by simp) (AllReadyH.cons (o := _) rfl (fun K' hK => ?_) AllReadyH.nil)
  simp only [List.getElem_toArray, List.getElem_cons_zero, List.getElem_cons_succ]
  rw [if_pos (by rfl)]
  go_simp
  refine Q3.out.mono ?_
  rintro e w2 ⟨rfl, rfl⟩
  refine hK.out _ _ (k0) (fun hS3 => ?_)
  clear hK K' hS2
  try simp only [Act.put, List.setIfInBounds_toArray, List.set_cons_zero, List.set_cons_succ, List.getElem_toArray, List.getElem_cons_zero, List.getElem_cons_succ]
  refine wpAnyH_take (i := 12) (oi := _) (v := .int .i64 (bw - u + bl : Nat)) rfl (by kernel_rfl) (by kernel_rfl) (by kernel_rfl) (fun _ _ _ h => h) (Or.inl ⟨by rfl, fun w hSw => ?_⟩) hS3 ?_
  · have x0 := hSw; go_simp
  try simp only [Act.put, List.setIfInBounds_toArray, List.set_cons_zero, List.set_cons_succ, List.getElem_toArray, List.getElem_cons_zero, List.getElem_cons_succ]
  refine wpAnyH_take (i := 13) (oi := _) (v := .bool (decide ((4096 : Int) < (bw - u + bl : Nat)))) rfl (by kernel_rfl) (by kernel_rfl) (by kernel_rfl) (fun _ _ _ h => h) (Or.inl ⟨by rfl, fun w hSw => ?_⟩) hS3 ?_
  · have x0 := hSw; go_simp
  try simp only [Act.put, List.setIfInBounds_toArray, List.set_cons_zero, List.set_cons_succ, List.getElem_toArray, List.getElem_cons_zero, List.getElem_cons_succ]
  refine wpAnyH_done (by kernel_rfl) ?_ _
  try dsimp only [Whole]
  have hrb := repL_bulk (W := W) (a := c) (n := m) (L := L) (by rw [← Hc.out]; exact ham)
  rw [← Hu.out, ← Hbw.out, ← Hbl.out] at hrb
  obtain ⟨rb, hrb2⟩ : ∃ rb, rb = bulkL (repL W c m L) := ⟨_, rfl⟩
  rw [← hrb2] at hrb
  rw [show bw - u + bl = rb by omega]
  have Hrb := Lib.hid hrb2
  have Hrbu := Lib.hid hrb
  clear hrb2 hws hwt hrb Q1 Q2 Q3
  by_cases hf : 4096 < rb
  · have hfI : (4096 : Int) < (rb : Int) := by omega
    go_wp2_with fail
    go_ret
    exact .inl ⟨by rw [← Hrb.out]; exact hf, rfl, H1.out.drop.drew⟩
  have hfI : ¬ ((4096 : Int) < (rb : Int)) := by omega
  have hjl : (joinL L).length ≤ bl := by rw [Hbl.out]; exact joinL_bulk L
  have Cj := Lib.hid (ljoin Hn.out H1.out.drew Hk.out.cons.cons (by omega) (by have := len_le_bulk L; rw [← Hbl.out] at this; omega))
  obtain ⟨jn, hjn⟩ : ∃ jn, jn = joinL L := ⟨_, rfl⟩
  rw [← hjn] at Cj hjl
  have Hjn := Lib.hid hjn
  clear hjn k0 hS3
  go_wp2_with fail
  refine Cj.out.mono ?_
  rintro e w3 ⟨rfl, h3⟩
  have H3 := Lib.hid h3.drop
  clear h3 Cj
  obtain ⟨t3, x3, T3, hI3, h4⟩ := bE H3.out
  have k0 : w3.cell? ⟨p, 0, none⟩ = some (.pointer (some ⟨t3, 0, none⟩)) := h4.cell (j := 0) rfl
  have k1 : w3.cell? ⟨p, 1, none⟩ = some (.pointer (some ⟨x3, 0, none⟩)) := h4.cell (j := 1) rfl
  have hlf := (noLF_iff W).2 HB.out.lf
  have hbk := brk_join hlf HB.out.ne
  rw [← Hc.out] at hbk
  have hjw := join_len HB.out.ne
  rw [← Hbw.out] at hjw
  have Clen := Lib.hid (ilen h4.p2)
  obtain ⟨tx, htx⟩ : ∃ tx, tx = joinL W := ⟨_, rfl⟩
  rw [← htx] at Clen hjw H3 hbk
  have Htx := Lib.hid htx
  obtain ⟨s0, hs0⟩ : ∃ s0, s0 = bulkL (W.take c) := ⟨_, rfl⟩
  have hs0b : s0 ≤ bw := by rw [hs0, Hbw.out]; exact bulkL_take_le W c
  have Hs0 := Lib.hid hs0
  have Cst := Lib.hid (istart_out (i := (c : Int)) (by rw [← htx] at h4; exact h4.p2) (by omega))
  have hsc : s0 = bw := by rw [hs0, Hbw.out, List.take_of_length_le (by rw [← Hc.out]; omega)]
  have hwl : IntKind.i64.wrap ((tx.length : Int) + 1) = (s0 : Int) := by rw [IntKind.wrap_i64]; omega
  have Hsc := Lib.hid hsc
  clear hsc
  clear htx hs0 hbk hI3 h4 hlf
  have hrw : repL W c m L = W := by rw [HLn.out, Hm.out, repL]; simp
  have hbl0 : bulkL L = 0 := by rw [HLn.out]; rfl
  go_wp2_with fail
  refine Cst.out.mono ?_
  rintro e w' ⟨rfl, rfl⟩
  go_wp2_with fail
  refine Clen.out.mono ?_
  rintro e w' ⟨rfl, rfl⟩
  go_wp2_with fail
  go_ret
  refine .inr ⟨by rw [← Hrb.out]; omega, rfl, ed, by omega, ?_⟩
  rw [hrw, hbl0, Nat.add_zero, ← Htx.out]
  exact H3.out
set_option maxHeartbeats 4000000 in
theorem brep_noop1 {la : Option Addr} {n lc a m : Nat} (hB : BufI W) (hM : MaxInt w0) (ham : a + m ≤ W.length) (hn : n = L.length) (hk : RdL w0 R (.slice la n lc) L) (hbr : brokenB L = false) (hm : m = 0) (hac : a < W.length) (hL : L = [])
    (hb : bulkL L ≤ 80000) (had : ad + bulkL L ≤ 90000) (hed : ed ≤ 10000) (H : Owns w0 w (tbufA p (joinL W) ed ad :: R)) :
    Calls Tryz.prog 13 #[.pointer (some ⟨p, 0, none⟩), .int .i64 a, .int .i64 m, .slice la n lc] w (RepP w0 R p ed ad W a m L) := by
  have C1 := Lib.hid (bcount hB H)
  have c2 := tbroken hn H hk.cons
  rw [hbr] at c2
  have C2 := Lib.hid c2
  have C3 := Lib.hid (blines hB hM H)
  have HB := Lib.hid hB
  have Hn := Lib.hid hn
  have Hk := Lib.hid hk
  have Hb := Lib.hid hb
  have Had := Lib.hid had
  have hcnt := hB.cnt
  obtain ⟨c, hc⟩ : ∃ c, c = W.length := ⟨_, rfl⟩
  rw [← hc] at C1 C3 ham hcnt hac
  have Hc := Lib.hid hc
  have hc0 : 0 < c := by rw [hc]; exact List.length_pos_iff.2 hB.ne
  have hncap : n ≤ lc := SrcV.capLe (by have := hk w H.drop; rw [← hn] at this; exact this)
  have hn0 : n = 0 := by rw [hn, hL]; rfl
  have hnz : ((n : Int) == 0) = true := by rw [show n = 0 by omega]; rfl
  have Hn0 := Lib.hid hn0
  clear hn0
  have hmc : ((m : Int) == (c : Int)) = false := beq_eq_false_iff_ne.2 (by omega)
  have hmz : ((m : Int) == 0) = true := by rw [show m = 0 by omega]; rfl
  have hca : ¬ c = a := by omega
  have Hm := Lib.hid hm
  clear hm
  have HLn := Lib.hid hL
  clear hL

  clear H hB hc hk hn hbr c2 hb hM had
  have hw : IntKind.i64.wrap ((c : Int) - a) = (c : Int) - a := by rw [IntKind.wrap_i64]; omega
  have h3 : ¬ ((c : Int) < a) := by omega
  have h4 : ¬ ((c : Int) - a < m) := by omega
  go_enter Tryz.func13, Tryz.ntmps13
  go_wp2_with fail
  refine C1.out.mono ?_
  rintro e w' ⟨rfl, rfl⟩
  clear C1
  go_wp2_with fail
  refine C2.out.mono ?_
  rintro e w' ⟨rfl, rfl⟩
  clear C2
  go_wp2_with fail
  refine C3.out.mono ?_
  rintro e w1 ⟨b, rfl, h1⟩
  have H1 := Lib.hid (show Owns w0 w1 (row_str (.slice (some ⟨b, 0, none⟩) c c) c (lstrs W) :: tbufA p (joinL W) ed ad :: R) by rw [Hc.out]; exact h1)
  clear h1 C3
  obtain ⟨d, hd⟩ : ∃ d, d = a + m := ⟨_, rfl⟩
  have hwd : IntKind.i64.wrap ((a : Int) + m) = (d : Int) := by rw [IntKind.wrap_i64]; omega
  have had1 : a ≤ d := by omega
  have had2 : d ≤ c := by omega
  have Hd := Lib.hid hd
  clear hd
  go_upto_region 7 with (fail)
  obtain ⟨t, x, T, hI, ht⟩ := bE H1.out.p1.drew
  have k0 : w1.drew.cell? ⟨p, 0, none⟩ = some (.pointer (some ⟨t, 0, none⟩)) := ht.cell (j := 0) rfl
  have Q1 := Lib.hid (bbytes HB.out (H1.out.p1.drew))
  have Q3 := Lib.hid (tsize Hn.out H1.out.drew Hk.out.cons.cons (by have := Hb.out; omega))
  clear hI ht
  obtain ⟨u, hu⟩ : ∃ u, u = bulkL ((W.drop a).take m) := ⟨_, rfl⟩
  have hlen2 : ((W.drop a).take m).length = d - a := by rw [List.length_take, List.length_drop, ← Hc.out, Hd.out]; omega
  have hrd : RdL w0 (row_str (.slice (some ⟨b, 0, none⟩) c c) c (lstrs W) :: tbufA p (joinL W) ed ad :: R) (.slice (some ⟨b, a, none⟩) (d - a) (c - a)) ((W.drop a).take m) := by
    have h := Reads.mid (Reads.row (w0 := w0) (e := 9) (k := 1) (v := .slice (some ⟨b, 0, none⟩) c c) (n := c) (xs := lstrs W) (R := row_str (.slice (some ⟨b, 0, none⟩) c c) c (lstrs W) :: tbufA p (joinL W) ed ad :: R) List.mem_cons_self) (q := a) (r := d - a) (by omega) hca
    unfold RdL
    rw [hlen2]
    have e2 : (((lstrs W).drop a).take (d - a)) = lstrs ((W.drop a).take m) := by
      rw [show d - a = m by have := Hd.out; omega]
      simp [lstrs, strs, List.map_take, List.map_drop]
    rw [e2] at h
    have e1 : Option.map (fun x : Addr => x.add a) (some ⟨b, 0, none⟩) = some ⟨b, a, none⟩ := by simp [Addr.add_lit]
    rw [e1] at h
    exact h
  have hub : u ≤ bulkL W := by
    have h1 := bulkL_append (W.take a) (W.drop a)
    have h2 := bulkL_append ((W.drop a).take m) ((W.drop a).drop m)
    rw [List.take_append_drop] at h1 h2
    omega
  have q2 := tsize hlen2.symm H1.out.drew hrd (by have := HB.out.bulk; omega)
  rw [← hu] at q2
  have Q2 := Lib.hid q2
  obtain ⟨bw, hbw⟩ : ∃ bw, bw = bulkL W := ⟨_, rfl⟩
  obtain ⟨bl, hbl⟩ : ∃ bl, bl = bulkL L := ⟨_, rfl⟩
  rw [← hbw] at Q1 hub
  rw [← hbl] at Q3
  have hbw2 : bw ≤ 4096 := by rw [hbw]; exact HB.out.bulk
  have hbl2 : bl ≤ 80000 := by rw [hbl]; exact Hb.out
  have hws : IntKind.i64.wrap ((bw : Int) - u) = ((bw - u : Nat) : Int) := by rw [IntKind.wrap_i64]; omega
  have hwt : IntKind.i64.wrap (((bw - u : Nat) : Int) + bl) = ((bw - u + bl : Nat) : Int) := by rw [IntKind.wrap_i64]; omega
  have Hu := Lib.hid hu
  have Hbw := Lib.hid hbw
  have Hbl := Lib.hid hbl
  clear hu hbw hbl q2 hrd hlen2
  refine wp_region_held_drew (S := (fun w' => w'.cell? ⟨p, 0, none⟩ = some (.pointer (some ⟨t, 0, none⟩)))) (by kernel_rfl) (k0) (fun hS0 => ?_)
  refine wpAnyH_take (i := 0) (oi := _) (v := .pointer (some ⟨p, 0, none⟩)) rfl (by kernel_rfl) (by kernel_rfl) (by kernel_rfl) (fun _ _ _ h => h) (Or.inl ⟨by rfl, fun w hSw => ?_⟩) hS0 ?_
  · have x0 := hSw; go_simp
  try simp only [Act.put, List.setIfInBounds_toArray, List.set_cons_zero, List.set_cons_succ, List.getElem_toArray, List.getElem_cons_zero, List.getElem_cons_succ]
  refine wpAnyH_take (i := 2) (oi := _) (v := .slice (some ⟨b, 0, none⟩) c c) rfl (by kernel_rfl) (by kernel_rfl) (by kernel_rfl) (fun _ _ _ h => h) (Or.inl ⟨by rfl, fun w hSw => ?_⟩) hS0 ?_
  · have x0 := hSw; go_simp
  try simp only [Act.put, List.setIfInBounds_toArray, List.set_cons_zero, List.set_cons_succ, List.getElem_toArray, List.getElem_cons_zero, List.getElem_cons_succ]
  refine wpAnyH_take (i := 3) (oi := _) (v := .int .i64 a) rfl (by kernel_rfl) (by kernel_rfl) (by kernel_rfl) (fun _ _ _ h => h) (Or.inl ⟨by rfl, fun w hSw => ?_⟩) hS0 ?_
  · have x0 := hSw; go_simp
  try simp only [Act.put, List.setIfInBounds_toArray, List.set_cons_zero, List.set_cons_succ, List.getElem_toArray, List.getElem_cons_zero, List.getElem_cons_succ]
  refine wpAnyH_take (i := 4) (oi := _) (v := .int .i64 a) rfl (by kernel_rfl) (by kernel_rfl) (by kernel_rfl) (fun _ _ _ h => h) (Or.inl ⟨by rfl, fun w hSw => ?_⟩) hS0 ?_
  · have x0 := hSw; go_simp
  try simp only [Act.put, List.setIfInBounds_toArray, List.set_cons_zero, List.set_cons_succ, List.getElem_toArray, List.getElem_cons_zero, List.getElem_cons_succ]
  refine wpAnyH_take (i := 5) (oi := _) (v := .int .i64 m) rfl (by kernel_rfl) (by kernel_rfl) (by kernel_rfl) (fun _ _ _ h => h) (Or.inl ⟨by rfl, fun w hSw => ?_⟩) hS0 ?_
  · have x0 := hSw; go_simp
  try simp only [Act.put, List.setIfInBounds_toArray, List.set_cons_zero, List.set_cons_succ, List.getElem_toArray, List.getElem_cons_zero, List.getElem_cons_succ]
  refine wpAnyH_take (i := 6) (oi := _) (v := .int .i64 d) rfl (by kernel_rfl) (by kernel_rfl) (by kernel_rfl) (fun _ _ _ h => h) (Or.inl ⟨by rfl, fun w hSw => ?_⟩) hS0 ?_
  · have x0 := hSw; go_simp
  try simp only [Act.put, List.setIfInBounds_toArray, List.set_cons_zero, List.set_cons_succ, List.getElem_toArray, List.getElem_cons_zero, List.getElem_cons_succ]
  refine wpAnyH_take (i := 7) (oi := _) (v := .slice (some ⟨b, a, none⟩) (d - a) (c - a)) rfl (by kernel_rfl) (by kernel_rfl) (by kernel_rfl) (fun _ _ _ h => h) (Or.inl ⟨by rfl, fun w hSw => ?_⟩) hS0 ?_
  · have x0 := hSw; go_simp
  try simp only [Act.put, List.setIfInBounds_toArray, List.set_cons_zero, List.set_cons_succ, List.getElem_toArray, List.getElem_cons_zero, List.getElem_cons_succ]
  refine wpAnyH_take (i := 10) (oi := _) (v := .slice la n lc) rfl (by kernel_rfl) (by kernel_rfl) (by kernel_rfl) (fun _ _ _ h => h) (Or.inl ⟨by rfl, fun w hSw => ?_⟩) hS0 ?_
  · have x0 := hSw; go_simp
  try simp only [Act.put, List.setIfInBounds_toArray, List.set_cons_zero, List.set_cons_succ, List.getElem_toArray, List.getElem_cons_zero, List.getElem_cons_succ]
  refine wpAnyH_ready (rs := [1]) (by kernel_rfl) (by simp) (AllReadyH.cons (o := _) rfl (fun K' hK => ?_) AllReadyH.nil)
  simp only [List.getElem_toArray, List.getElem_cons_zero, List.getElem_cons_succ]
  rw [if_pos (by rfl)]
  go_simp
  refine Q1.out.mono ?_
  rintro e w2 ⟨rfl, rfl⟩
  refine hK.out _ _ (k0) (fun hS1 => ?_)
  clear hK K' hS0
  try simp only [Act.put, List.setIfInBounds_toArray, List.set_cons_zero, List.set_cons_succ, List.getElem_toArray, List.getElem_cons_zero, List.getElem_cons_succ]
  refine wpAnyH_ready (rs := [8]) (by kernel_rfl) (by simp) (AllReadyH.cons (o := _) rfl (fun K' hK => ?_) AllReadyH.nil)
  simp only [List.getElem_toArray, List.getElem_cons_zero, List.getElem_cons_succ]
  rw [if_pos (by rfl)]
  go_simp
  refine Q2.out.mono ?_
  rintro e w2 ⟨rfl, rfl⟩
  refine hK.out _ _ (k0) (fun hS2 => ?_)
  clear hK K' hS1
  try simp only [Act.put, List.setIfInBounds_toArray, List.set_cons_zero, List.set_cons_succ, List.getElem_toArray, List.getElem_cons_zero, List.getElem_cons_succ]
  refine wpAnyH_take (i := 9) (oi := _) (v := .int .i64 (bw - u : Nat)) rfl (by kernel_rfl) (by kernel_rfl) (by kernel_rfl) (fun _ _ _ h => h) (Or.inl ⟨by rfl, fun w hSw => ?_⟩) hS2 ?_
  · have x0 := hSw; go_simp
  try simp only [Act.put, List.setIfInBounds_toArray, List.set_cons_zero, List.set_cons_succ, List.getElem_toArray, List.getElem_cons_zero, List.getElem_cons_succ]
  refine wpAnyH_ready (rs := [11]) (by kernel_rfl) (by simp) (AllReadyH.cons (o := _) rfl (fun K' hK => ?_) AllReadyH.nil)
  simp only [List.getElem_toArray, List.getElem_cons_zero, List.getElem_cons_succ]
  rw [if_pos (by rfl)]
  go_simp
  refine Q3.out.mono ?_
  rintro e w2 ⟨rfl, rfl⟩
  refine hK.out _ _ (k0) (fun hS3 => ?_)
  clear hK K' hS2
  try simp only [Act.put, List.setIfInBounds_toArray, List.set_cons_zero, List.set_cons_succ, List.getElem_toArray, List.getElem_cons_zero, List.getElem_cons_succ]
  refine wpAnyH_take (i := 12) (oi := _) (v := .int .i64 (bw - u + bl : Nat)) rfl (by kernel_rfl) (by kernel_rfl) (by kernel_rfl) (fun _ _ _ h => h) (Or.inl ⟨by rfl, fun w hSw => ?_⟩) hS3 ?_
  · have x0 := hSw; go_simp
  try simp only [Act.put, List.setIfInBounds_toArray, List.set_cons_zero, List.set_cons_succ, List.getElem_toArray, List.getElem_cons_zero, List.getElem_cons_succ]
  refine wpAnyH_take (i := 13) (oi := _) (v := .bool (decide ((4096 : Int) < (bw - u + bl : Nat)))) rfl (by kernel_rfl) (by kernel_rfl) (by kernel_rfl) (fun _ _ _ h => h) (Or.inl ⟨by rfl, fun w hSw => ?_⟩) hS3 ?_
  · have x0 := hSw; go_simp
  try simp only [Act.put, List.setIfInBounds_toArray, List.set_cons_zero, List.set_cons_succ, List.getElem_toArray, List.getElem_cons_zero, List.getElem_cons_succ]
  refine wpAnyH_done (by kernel_rfl) ?_ _
  try dsimp only [Whole]
  have hrb := repL_bulk (W := W) (a := a) (n := m) (L := L) (by rw [← Hc.out]; exact ham)
  rw [← Hu.out, ← Hbw.out, ← Hbl.out] at hrb
  obtain ⟨rb, hrb2⟩ : ∃ rb, rb = bulkL (repL W a m L) := ⟨_, rfl⟩
  rw [← hrb2] at hrb
  rw [show bw - u + bl = rb by omega]
  have Hrb := Lib.hid hrb2
  have Hrbu := Lib.hid hrb
  clear hrb2 hws hwt hrb Q1 Q2 Q3
  by_cases hf : 4096 < rb
  · have hfI : (4096 : Int) < (rb : Int) := by omega
    go_wp2_with fail
    go_ret
    exact .inl ⟨by rw [← Hrb.out]; exact hf, rfl, H1.out.drop.drew⟩
  have hfI : ¬ ((4096 : Int) < (rb : Int)) := by omega
  have hjl : (joinL L).length ≤ bl := by rw [Hbl.out]; exact joinL_bulk L
  have Cj := Lib.hid (ljoin Hn.out H1.out.drew Hk.out.cons.cons (by omega) (by have := len_le_bulk L; rw [← Hbl.out] at this; omega))
  obtain ⟨jn, hjn⟩ : ∃ jn, jn = joinL L := ⟨_, rfl⟩
  rw [← hjn] at Cj hjl
  have Hjn := Lib.hid hjn
  clear hjn k0 hS3
  go_wp2_with fail
  refine Cj.out.mono ?_
  rintro e w3 ⟨rfl, h3⟩
  have H3 := Lib.hid h3.drop
  clear h3 Cj
  obtain ⟨t3, x3, T3, hI3, h4⟩ := bE H3.out
  have k0 : w3.cell? ⟨p, 0, none⟩ = some (.pointer (some ⟨t3, 0, none⟩)) := h4.cell (j := 0) rfl
  have k1 : w3.cell? ⟨p, 1, none⟩ = some (.pointer (some ⟨x3, 0, none⟩)) := h4.cell (j := 1) rfl
  have hlf := (noLF_iff W).2 HB.out.lf
  have hbk := brk_join hlf HB.out.ne
  rw [← Hc.out] at hbk
  have hjw := join_len HB.out.ne
  rw [← Hbw.out] at hjw
  have Clen := Lib.hid (ilen h4.p2)
  obtain ⟨tx, htx⟩ : ∃ tx, tx = joinL W := ⟨_, rfl⟩
  rw [← htx] at Clen hjw H3 hbk
  have Htx := Lib.hid htx
  obtain ⟨s0, hs0⟩ : ∃ s0, s0 = bulkL (W.take a) := ⟨_, rfl⟩
  have hs0b : s0 ≤ bw := by rw [hs0, Hbw.out]; exact bulkL_take_le W a
  have Hs0 := Lib.hid hs0
  have Cst := Lib.hid (istart_in (h := a) (by rw [← htx] at h4; exact h4.p2) (by omega))
  rw [show lstart tx a = s0 by rw [htx, hs0]; exact lstart_lines hlf (by rw [← Hc.out]; omega)] at Cst
  clear htx hs0 hbk hI3 h4 hlf
  have hrw : repL W a m L = W := by rw [HLn.out, Hm.out, repL]; simp
  have hbl0 : bulkL L = 0 := by rw [HLn.out]; rfl
  go_wp2_with fail
  refine Cst.out.mono ?_
  rintro e w' ⟨rfl, rfl⟩
  go_wp2_with fail
  go_ret
  refine .inr ⟨by rw [← Hrb.out]; omega, rfl, ed, by omega, ?_⟩
  rw [hrw, hbl0, Nat.add_zero, ← Htx.out]
  exact H3.out
set_option maxHeartbeats 4000000 in
theorem brep_cut {la : Option Addr} {n lc a m : Nat} (hB : BufI W) (hM : MaxInt w0) (ham : a + m ≤ W.length) (hn : n = L.length) (hk : RdL w0 R (.slice la n lc) L) (hbr : brokenB L = false) (hm : 0 < m) (hmW : m < W.length) (hac : a + m = W.length) (hL : L = [])
    (hb : bulkL L ≤ 80000) (had : ad + bulkL L ≤ 90000) (hed : ed ≤ 10000) (H : Owns w0 w (tbufA p (joinL W) ed ad :: R)) :
    Calls Tryz.prog 13 #[.pointer (some ⟨p, 0, none⟩), .int .i64 a, .int .i64 m, .slice la n lc] w (RepP w0 R p ed ad W a m L) := by
  have C1 := Lib.hid (bcount hB H)
  have c2 := tbroken hn H hk.cons
  rw [hbr] at c2
  have C2 := Lib.hid c2
  have C3 := Lib.hid (blines hB hM H)
  have HB := Lib.hid hB
  have Hn := Lib.hid hn
  have Hk := Lib.hid hk
  have Hb := Lib.hid hb
  have Had := Lib.hid had
  have hcnt := hB.cnt
  obtain ⟨c, hc⟩ : ∃ c, c = W.length := ⟨_, rfl⟩
  rw [← hc] at C1 C3 ham hcnt hmW hac
  have Hc := Lib.hid hc
  have hc0 : 0 < c := by rw [hc]; exact List.length_pos_iff.2 hB.ne
  have hncap : n ≤ lc := SrcV.capLe (by have := hk w H.drop; rw [← hn] at this; exact this)
  have hn0 : n = 0 := by rw [hn, hL]; rfl
  have hnz : ((n : Int) == 0) = true := by rw [show n = 0 by omega]; rfl
  have Hn0 := Lib.hid hn0
  clear hn0
  have hmc : ((m : Int) == (c : Int)) = false := beq_eq_false_iff_ne.2 (by omega)
  have hmz : ((m : Int) == 0) = false := beq_eq_false_iff_ne.2 (by omega)
  have hca : ¬ c = a := by omega
  have HLn := Lib.hid hL
  clear hL

  clear H hB hc hk hn hbr c2 hb hM had
  have hw : IntKind.i64.wrap ((c : Int) - a) = (c : Int) - a := by rw [IntKind.wrap_i64]; omega
  have h3 : ¬ ((c : Int) < a) := by omega
  have h4 : ¬ ((c : Int) - a < m) := by omega
  go_enter Tryz.func13, Tryz.ntmps13
  go_wp2_with fail
  refine C1.out.mono ?_
  rintro e w' ⟨rfl, rfl⟩
  clear C1
  go_wp2_with fail
  refine C2.out.mono ?_
  rintro e w' ⟨rfl, rfl⟩
  clear C2
  go_wp2_with fail
  refine C3.out.mono ?_
  rintro e w1 ⟨b, rfl, h1⟩
  have H1 := Lib.hid (show Owns w0 w1 (row_str (.slice (some ⟨b, 0, none⟩) c c) c (lstrs W) :: tbufA p (joinL W) ed ad :: R) by rw [Hc.out]; exact h1)
  clear h1 C3
  obtain ⟨d, hd⟩ : ∃ d, d = a + m := ⟨_, rfl⟩
  have hwd : IntKind.i64.wrap ((a : Int) + m) = (d : Int) := by rw [IntKind.wrap_i64]; omega
  have had1 : a ≤ d := by omega
  have had2 : d ≤ c := by omega
  have Hd := Lib.hid hd
  clear hd
  go_upto_region 7 with (fail)
  obtain ⟨t, x, T, hI, ht⟩ := bE H1.out.p1.drew
  have k0 : w1.drew.cell? ⟨p, 0, none⟩ = some (.pointer (some ⟨t, 0, none⟩)) := ht.cell (j := 0) rfl
  have Q1 := Lib.hid (bbytes HB.out (H1.out.p1.drew))
  have Q3 := Lib.hid (tsize Hn.out H1.out.drew Hk.out.cons.cons (by have := Hb.out; omega))
  clear hI ht
  obtain ⟨u, hu⟩ : ∃ u, u = bulkL ((W.drop a).take m) := ⟨_, rfl⟩
  have hlen2 : ((W.drop a).take m).length = d - a := by rw [List.length_take, List.length_drop, ← Hc.out, Hd.out]; omega
  have hrd : RdL w0 (row_str (.slice (some ⟨b, 0, none⟩) c c) c (lstrs W) :: tbufA p (joinL W) ed ad :: R) (.slice (some ⟨b, a, none⟩) (d - a) (c - a)) ((W.drop a).take m) := by
    have h := Reads.mid (Reads.row (w0 := w0) (e := 9) (k := 1) (v := .slice (some ⟨b, 0, none⟩) c c) (n := c) (xs := lstrs W) (R := row_str (.slice (some ⟨b, 0, none⟩) c c) c (lstrs W) :: tbufA p (joinL W) ed ad :: R) List.mem_cons_self) (q := a) (r := d - a) (by omega) hca
    unfold RdL
    rw [hlen2]
    have e2 : (((lstrs W).drop a).take (d - a)) = lstrs ((W.drop a).take m) := by
      rw [show d - a = m by have := Hd.out; omega]
      simp [lstrs, strs, List.map_take, List.map_drop]
    rw [e2] at h
    have e1 : Option.map (fun x : Addr => x.add a) (some ⟨b, 0, none⟩) = some ⟨b, a, none⟩ := by simp [Addr.add_lit]
    rw [e1] at h
    exact h
  have hub : u ≤ bulkL W := by
    have h1 := bulkL_append (W.take a) (W.drop a)
    have h2 := bulkL_append ((W.drop a).take m) ((W.drop a).drop m)
    rw [List.take_append_drop] at h1 h2
    omega
  have q2 := tsize hlen2.symm H1.out.drew hrd (by have := HB.out.bulk; omega)
  rw [← hu] at q2
  have Q2 := Lib.hid q2
  obtain ⟨bw, hbw⟩ : ∃ bw, bw = bulkL W := ⟨_, rfl⟩
  obtain ⟨bl, hbl⟩ : ∃ bl, bl = bulkL L := ⟨_, rfl⟩
  rw [← hbw] at Q1 hub
  rw [← hbl] at Q3
  have hbw2 : bw ≤ 4096 := by rw [hbw]; exact HB.out.bulk
  have hbl2 : bl ≤ 80000 := by rw [hbl]; exact Hb.out
  have hws : IntKind.i64.wrap ((bw : Int) - u) = ((bw - u : Nat) : Int) := by rw [IntKind.wrap_i64]; omega
  have hwt : IntKind.i64.wrap (((bw - u : Nat) : Int) + bl) = ((bw - u + bl : Nat) : Int) := by rw [IntKind.wrap_i64]; omega
  have Hu := Lib.hid hu
  have Hbw := Lib.hid hbw
  have Hbl := Lib.hid hbl
  clear hu hbw hbl q2 hrd hlen2
  refine wp_region_held_drew (S := (fun w' => w'.cell? ⟨p, 0, none⟩ = some (.pointer (some ⟨t, 0, none⟩)))) (by kernel_rfl) (k0) (fun hS0 => ?_)
  refine wpAnyH_take (i := 0) (oi := _) (v := .pointer (some ⟨p, 0, none⟩)) rfl (by kernel_rfl) (by kernel_rfl) (by kernel_rfl) (fun _ _ _ h => h) (Or.inl ⟨by rfl, fun w hSw => ?_⟩) hS0 ?_
  · have x0 := hSw; go_simp
  try simp only [Act.put, List.setIfInBounds_toArray, List.set_cons_zero, List.set_cons_succ, List.getElem_toArray, List.getElem_cons_zero, List.getElem_cons_succ]
  refine wpAnyH_take (i := 2) (oi := _) (v := .slice (some ⟨b, 0, none⟩) c c) rfl (by kernel_rfl) (by kernel_rfl) (by kernel_rfl) (fun _ _ _ h => h) (Or.inl ⟨by rfl, fun w hSw => ?_⟩) hS0 ?_
  · have x0 := hSw; go_simp
  try simp only [Act.put, List.setIfInBounds_toArray, List.set_cons_zero, List.set_cons_succ, List.getElem_toArray, List.getElem_cons_zero, List.getElem_cons_succ]
  refine wpAnyH_take (i := 3) (oi := _) (v := .int .i64 a) rfl (by kernel_rfl) (by kernel_rfl) (by kernel_rfl) (fun _ _ _ h => h) (Or.inl ⟨by rfl, fun w hSw => ?_⟩) hS0 ?_
  · have x0 := hSw; go_simp
  try simp only [Act.put, List.setIfInBounds_toArray, List.set_cons_zero, List.set_cons_succ, List.getElem_toArray, List.getElem_cons_zero, List.getElem_cons_succ]
  refine wpAnyH_take (i := 4) (oi := _) (v := .int .i64 a) rfl (by kernel_rfl) (by kernel_rfl) (by kernel_rfl) (fun _ _ _ h => h) (Or.inl ⟨by rfl, fun w hSw => ?_⟩) hS0 ?_
  · have x0 := hSw; go_simp
  try simp only [Act.put, List.setIfInBounds_toArray, List.set_cons_zero, List.set_cons_succ, List.getElem_toArray, List.getElem_cons_zero, List.getElem_cons_succ]
  refine wpAnyH_take (i := 5) (oi := _) (v := .int .i64 m) rfl (by kernel_rfl) (by kernel_rfl) (by kernel_rfl) (fun _ _ _ h => h) (Or.inl ⟨by rfl, fun w hSw => ?_⟩) hS0 ?_
  · have x0 := hSw; go_simp
  try simp only [Act.put, List.setIfInBounds_toArray, List.set_cons_zero, List.set_cons_succ, List.getElem_toArray, List.getElem_cons_zero, List.getElem_cons_succ]
  refine wpAnyH_take (i := 6) (oi := _) (v := .int .i64 d) rfl (by kernel_rfl) (by kernel_rfl) (by kernel_rfl) (fun _ _ _ h => h) (Or.inl ⟨by rfl, fun w hSw => ?_⟩) hS0 ?_
  · have x0 := hSw; go_simp
  try simp only [Act.put, List.setIfInBounds_toArray, List.set_cons_zero, List.set_cons_succ, List.getElem_toArray, List.getElem_cons_zero, List.getElem_cons_succ]
  refine wpAnyH_take (i := 7) (oi := _) (v := .slice (some ⟨b, a, none⟩) (d - a) (c - a)) rfl (by kernel_rfl) (by kernel_rfl) (by kernel_rfl) (fun _ _ _ h => h) (Or.inl ⟨by rfl, fun w hSw => ?_⟩) hS0 ?_
  · have x0 := hSw; go_simp
  try simp only [Act.put, List.setIfInBounds_toArray, List.set_cons_zero, List.set_cons_succ, List.getElem_toArray, List.getElem_cons_zero, List.getElem_cons_succ]
  refine wpAnyH_take (i := 10) (oi := _) (v := .slice la n lc) rfl (by kernel_rfl) (by kernel_rfl) (by kernel_rfl) (fun _ _ _ h => h) (Or.inl ⟨by rfl, fun w hSw => ?_⟩) hS0 ?_
  · have x0 := hSw; go_simp
  try simp only [Act.put, List.setIfInBounds_toArray, List.set_cons_zero, List.set_cons_succ, List.getElem_toArray, List.getElem_cons_zero, List.getElem_cons_succ]
  refine wpAnyH_ready (rs := [1]) (by kernel_rfl) (by simp) (AllReadyH.cons (o := _) rfl (fun K' hK => ?_) AllReadyH.nil)
  simp only [List.getElem_toArray, List.getElem_cons_zero, List.getElem_cons_succ]
  rw [if_pos (by rfl)]
  go_simp
  refine Q1.out.mono ?_
  rintro e w2 ⟨rfl, rfl⟩
  refine hK.out _ _ (k0) (fun hS1 => ?_)
  clear hK K' hS0
  try simp only [Act.put, List.setIfInBounds_toArray, List.set_cons_zero, List.set_cons_succ, List.getElem_toArray, List.getElem_cons_zero, List.getElem_cons_succ]
  refine wpAnyH_ready (rs := [8]) (by kernel_rfl) (by simp) (AllReadyH.cons (o := _) rfl (fun K' hK => ?_) AllReadyH.nil)
  simp only [List.getElem_toArray, List.getElem_cons_zero, List.getElem_cons_succ]
  rw [if_pos (by rfl)]
  go_simp
  refine Q2.out.mono ?_
  rintro e w2 ⟨rfl, rfl⟩
  refine hK.out _ _ (k0) (fun hS2 => ?_)
  clear hK K' hS1
  try simp only [Act.put, List.setIfInBounds_toArray, List.set_cons_zero, List.set_cons_succ, List.getElem_toArray, List.getElem_cons_zero, List.getElem_cons_succ]
  refine wpAnyH_take (i := 9) (oi := _) (v := .int .i64 (bw - u : Nat)) rfl (by kernel_rfl) (by kernel_rfl) (by kernel_rfl) (fun _ _ _ h => h) (Or.inl ⟨by rfl, fun w hSw => ?_⟩) hS2 ?_
  · have x0 := hSw; go_simp
  try simp only [Act.put, List.setIfInBounds_toArray, List.set_cons_zero, List.set_cons_succ, List.getElem_toArray, List.getElem_cons_zero, List.getElem_cons_succ]
  refine wpAnyH_ready (rs := [11]) (by kernel_rfl) (by simp) (AllReadyH.cons (o := _) rfl (fun K' hK => ?_) AllReadyH.nil)
  simp only [List.getElem_toArray, List.getElem_cons_zero, List.getElem_cons_succ]
  rw [if_pos (by rfl)]
  go_simp
  refine Q3.out.mono ?_
  rintro e w2 ⟨rfl, rfl⟩
  refine hK.out _ _ (k0) (fun hS3 => ?_)
  clear hK K' hS2
  try simp only [Act.put, List.setIfInBounds_toArray, List.set_cons_zero, List.set_cons_succ, List.getElem_toArray, List.getElem_cons_zero, List.getElem_cons_succ]
  refine wpAnyH_take (i := 12) (oi := _) (v := .int .i64 (bw - u + bl : Nat)) rfl (by kernel_rfl) (by kernel_rfl) (by kernel_rfl) (fun _ _ _ h => h) (Or.inl ⟨by rfl, fun w hSw => ?_⟩) hS3 ?_
  · have x0 := hSw; go_simp
  try simp only [Act.put, List.setIfInBounds_toArray, List.set_cons_zero, List.set_cons_succ, List.getElem_toArray, List.getElem_cons_zero, List.getElem_cons_succ]
  refine wpAnyH_take (i := 13) (oi := _) (v := .bool (decide ((4096 : Int) < (bw - u + bl : Nat)))) rfl (by kernel_rfl) (by kernel_rfl) (by kernel_rfl) (fun _ _ _ h => h) (Or.inl ⟨by rfl, fun w hSw => ?_⟩) hS3 ?_
  · have x0 := hSw; go_simp
  try simp only [Act.put, List.setIfInBounds_toArray, List.set_cons_zero, List.set_cons_succ, List.getElem_toArray, List.getElem_cons_zero, List.getElem_cons_succ]
  refine wpAnyH_done (by kernel_rfl) ?_ _
  try dsimp only [Whole]
  have hrb := repL_bulk (W := W) (a := a) (n := m) (L := L) (by rw [← Hc.out]; exact ham)
  rw [← Hu.out, ← Hbw.out, ← Hbl.out] at hrb
  obtain ⟨rb, hrb2⟩ : ∃ rb, rb = bulkL (repL W a m L) := ⟨_, rfl⟩
  rw [← hrb2] at hrb
  rw [show bw - u + bl = rb by omega]
  have Hrb := Lib.hid hrb2
  have Hrbu := Lib.hid hrb
  clear hrb2 hws hwt hrb Q1 Q2 Q3
  by_cases hf : 4096 < rb
  · have hfI : (4096 : Int) < (rb : Int) := by omega
    go_wp2_with fail
    go_ret
    exact .inl ⟨by rw [← Hrb.out]; exact hf, rfl, H1.out.drop.drew⟩
  have hfI : ¬ ((4096 : Int) < (rb : Int)) := by omega
  have hjl : (joinL L).length ≤ bl := by rw [Hbl.out]; exact joinL_bulk L
  have Cj := Lib.hid (ljoin Hn.out H1.out.drew Hk.out.cons.cons (by omega) (by have := len_le_bulk L; rw [← Hbl.out] at this; omega))
  obtain ⟨jn, hjn⟩ : ∃ jn, jn = joinL L := ⟨_, rfl⟩
  rw [← hjn] at Cj hjl
  have Hjn := Lib.hid hjn
  clear hjn k0 hS3
  go_wp2_with fail
  refine Cj.out.mono ?_
  rintro e w3 ⟨rfl, h3⟩
  have H3 := Lib.hid h3.drop
  clear h3 Cj
  obtain ⟨t3, x3, T3, hI3, h4⟩ := bE H3.out
  have k0 : w3.cell? ⟨p, 0, none⟩ = some (.pointer (some ⟨t3, 0, none⟩)) := h4.cell (j := 0) rfl
  have k1 : w3.cell? ⟨p, 1, none⟩ = some (.pointer (some ⟨x3, 0, none⟩)) := h4.cell (j := 1) rfl
  have hlf := (noLF_iff W).2 HB.out.lf
  have hbk := brk_join hlf HB.out.ne
  rw [← Hc.out] at hbk
  have hjw := join_len HB.out.ne
  rw [← Hbw.out] at hjw
  have Clen := Lib.hid (ilen h4.p2)
  obtain ⟨tx, htx⟩ : ∃ tx, tx = joinL W := ⟨_, rfl⟩
  rw [← htx] at Clen hjw H3 hbk
  have Htx := Lib.hid htx
  obtain ⟨s0, hs0⟩ : ∃ s0, s0 = bulkL (W.take a) := ⟨_, rfl⟩
  have hs0b : s0 ≤ bw := by rw [hs0, Hbw.out]; exact bulkL_take_le W a
  have Hs0 := Lib.hid hs0
  have Cst := Lib.hid (istart_in (h := a) (by rw [← htx] at h4; exact h4.p2) (by omega))
  rw [show lstart tx a = s0 by rw [htx, hs0]; exact lstart_lines hlf (by rw [← Hc.out]; omega)] at Cst
  clear htx hs0 hbk hI3 h4 hlf
  have hjb : jn.length = 0 ∧ bl = 0 := by rw [Hjn.out, Hbl.out, HLn.out]; exact ⟨rfl, rfl⟩
  have Hjb := Lib.hid hjb
  clear hjb
  have hs1 : 0 < s0 := by rw [Hs0.out]; exact bulkL_pos (take_ne (by omega) (by rw [← Hc.out]; omega))
  have hw1 : IntKind.i64.wrap ((s0 : Int) - 1) = ((s0 - 1 : Nat) : Int) := by rw [IntKind.wrap_i64]; omega
  have hw2 : IntKind.i64.wrap ((tx.length : Int) - ((s0 - 1 : Nat) : Int)) = ((tx.length - (s0 - 1) : Nat) : Int) := by rw [IntKind.wrap_i64]; omega
  have hdc : ((d : Int) == (c : Int)) = true := by rw [show d = c by have := Hd.out; omega]; simp
  have cp := bput (s0 - 1) (tx.length - (s0 - 1)) ([]) (by omega) (by omega) (by simp only [List.length_nil]; omega) (by have h1 := Had.out; rw [← Hbl.out] at h1; have h2 := Hjb.out; (try simp only [List.length_cons, List.length_append, List.length_nil]); omega) (by omega) H3.out
  rw [show tx.take (s0 - 1) ++ ([]) ++ tx.drop (s0 - 1 + (tx.length - (s0 - 1))) = joinL (repL W a m L) by
    rw [List.append_nil, List.drop_of_length_le (by omega), List.append_nil, Htx.out, Hs0.out, HLn.out]
    exact rep_cut (by rw [← Hc.out]; exact hac) (by omega)] at cp
  have cp : Calls Tryz.prog 33 #[.pointer (some ⟨p, 0, none⟩), .int .i64 (s0 - 1 : Nat), .int .i64 (tx.length - (s0 - 1) : Nat), .string ⟨#[]⟩] w3 _ := cp
  have Cp := Lib.hid cp
  clear cp
  have Hac := Lib.hid hac
  clear hac
  go_wp2_with fail
  refine Cst.out.mono ?_
  rintro e w' ⟨rfl, rfl⟩
  go_wp2_with fail
  refine Clen.out.mono ?_
  rintro e w' ⟨rfl, rfl⟩
  go_wp2_with fail
  refine Cp.out.mono ?_
  rintro e w5 ⟨e5, rfl, h5⟩
  obtain ⟨he5, h5⟩ := h5.pureE
  have H5 := Lib.hid (bufMore (ad' := ad + bl) (by have := Hjb.out; (try simp only [List.length_cons, List.length_append, List.length_nil]); omega) h5)
  clear h5 Cp
  go_wp2_with fail
  go_ret
  refine .inr ⟨by rw [← Hrb.out]; omega, rfl, e5, he5, ?_⟩
  rw [← Hbl.out]
  exact H5.out
set_option maxHeartbeats 4000000 in
theorem brep_end1 {la : Option Addr} {n lc a m : Nat} (hB : BufI W) (hM : MaxInt w0) (ham : a + m ≤ W.length) (hn : n = L.length) (hk : RdL w0 R (.slice la n lc) L) (hbr : brokenB L = false) (hm : 0 < m) (hmW : m < W.length) (hac : a + m = W.length) (hL : L ≠ [])
    (hb : bulkL L ≤ 80000) (had : ad + bulkL L ≤ 90000) (hed : ed ≤ 10000) (H : Owns w0 w (tbufA p (joinL W) ed ad :: R)) :
    Calls Tryz.prog 13 #[.pointer (some ⟨p, 0, none⟩), .int .i64 a, .int .i64 m, .slice la n lc] w (RepP w0 R p ed ad W a m L) := by
  have C1 := Lib.hid (bcount hB H)
  have c2 := tbroken hn H hk.cons
  rw [hbr] at c2
  have C2 := Lib.hid c2
  have C3 := Lib.hid (blines hB hM H)
  have HB := Lib.hid hB
  have Hn := Lib.hid hn
  have Hk := Lib.hid hk
  have Hb := Lib.hid hb
  have Had := Lib.hid had
  have hcnt := hB.cnt
  obtain ⟨c, hc⟩ : ∃ c, c = W.length := ⟨_, rfl⟩
  rw [← hc] at C1 C3 ham hcnt hmW hac
  have Hc := Lib.hid hc
  have hc0 : 0 < c := by rw [hc]; exact List.length_pos_iff.2 hB.ne
  have hncap : n ≤ lc := SrcV.capLe (by have := hk w H.drop; rw [← hn] at this; exact this)
  have hn0 : 0 < n := by rw [hn]; exact List.length_pos_iff.2 hL
  have hnz : ((n : Int) == 0) = false := beq_eq_false_iff_ne.2 (by omega)
  have hmc : ((m : Int) == (c : Int)) = false := beq_eq_false_iff_ne.2 (by omega)
  have hmz : ((m : Int) == 0) = false := beq_eq_false_iff_ne.2 (by omega)
  have hca : ¬ c = a := by omega
  have HLne := Lib.hid hL
  clear hL

  clear H hB hc hk hn hbr c2 hb hM had
  have hw : IntKind.i64.wrap ((c : Int) - a) = (c : Int) - a := by rw [IntKind.wrap_i64]; omega
  have h3 : ¬ ((c : Int) < a) := by omega
  have h4 : ¬ ((c : Int) - a < m) := by omega
  go_enter Tryz.func13, Tryz.ntmps13
  go_wp2_with fail
  refine C1.out.mono ?_
  rintro e w' ⟨rfl, rfl⟩
  clear C1
  go_wp2_with fail
  refine C2.out.mono ?_
  rintro e w' ⟨rfl, rfl⟩
  clear C2
  go_wp2_with fail
  refine C3.out.mono ?_
  rintro e w1 ⟨b, rfl, h1⟩
  have H1 := Lib.hid (show Owns w0 w1 (row_str (.slice (some ⟨b, 0, none⟩) c c) c (lstrs W) :: tbufA p (joinL W) ed ad :: R) by rw [Hc.out]; exact h1)
  clear h1 C3
  obtain ⟨d, hd⟩ : ∃ d, d = a + m := ⟨_, rfl⟩
  have hwd : IntKind.i64.wrap ((a : Int) + m) = (d : Int) := by rw [IntKind.wrap_i64]; omega
  have had1 : a ≤ d := by omega
  have had2 : d ≤ c := by omega
  have Hd := Lib.hid hd
  clear hd
  go_upto_region 7 with (fail)
  obtain ⟨t, x, T, hI, ht⟩ := bE H1.out.p1.drew
  have k0 : w1.drew.cell? ⟨p, 0, none⟩ = some (.pointer (some ⟨t, 0, none⟩)) := ht.cell (j := 0) rfl
  have Q1 := Lib.hid (bbytes HB.out (H1.out.p1.drew))
  have Q3 := Lib.hid (tsize Hn.out H1.out.drew Hk.out.cons.cons (by have := Hb.out; omega))
  clear hI ht
  obtain ⟨u, hu⟩ : ∃ u, u = bulkL ((W.drop a).take m) := ⟨_, rfl⟩
  have hlen2 : ((W.drop a).take m).length = d - a := by rw [List.length_take, List.length_drop, ← Hc.out, Hd.out]; omega
  have hrd : RdL w0 (row_str (.slice (some ⟨b, 0, none⟩) c c) c (lstrs W) :: tbufA p (joinL W) ed ad :: R) (.slice (some ⟨b, a, none⟩) (d - a) (c - a)) ((W.drop a).take m) := by
    have h := Reads.mid (Reads.row (w0 := w0) (e := 9) (k := 1) (v := .slice (some ⟨b, 0, none⟩) c c) (n := c) (xs := lstrs W) (R := row_str (.slice (some ⟨b, 0, none⟩) c c) c (lstrs W) :: tbufA p (joinL W) ed ad :: R) List.mem_cons_self) (q := a) (r := d - a) (by omega) hca
    unfold RdL
    rw [hlen2]
    have e2 : (((lstrs W).drop a).take (d - a)) = lstrs ((W.drop a).take m) := by
      rw [show d - a = m by have := Hd.out; omega]
      simp [lstrs, strs, List.map_take, List.map_drop]
    rw [e2] at h
    have e1 : Option.map (fun x : Addr => x.add a) (some ⟨b, 0, none⟩) = some ⟨b, a, none⟩ := by simp [Addr.add_lit]
    rw [e1] at h
    exact h
  have hub : u ≤ bulkL W := by
    have h1 := bulkL_append (W.take a) (W.drop a)
    have h2 := bulkL_append ((W.drop a).take m) ((W.drop a).drop m)
    rw [List.take_append_drop] at h1 h2
    omega
  have q2 := tsize hlen2.symm H1.out.drew hrd (by have := HB.out.bulk; omega)
  rw [← hu] at q2
  have Q2 := Lib.hid q2
  obtain ⟨bw, hbw⟩ : ∃ bw, bw = bulkL W := ⟨_, rfl⟩
  obtain ⟨bl, hbl⟩ : ∃ bl, bl = bulkL L := ⟨_, rfl⟩
  rw [← hbw] at Q1 hub
  rw [← hbl] at Q3
  have hbw2 : bw ≤ 4096 := by rw [hbw]; exact HB.out.bulk
  have hbl2 : bl ≤ 80000 := by rw [hbl]; exact Hb.out
  have hws : IntKind.i64.wrap ((bw : Int) - u) = ((bw - u : Nat) : Int) := by rw [IntKind.wrap_i64]; omega
  have hwt : IntKind.i64.wrap (((bw - u : Nat) : Int) + bl) = ((bw - u + bl : Nat) : Int) := by rw [IntKind.wrap_i64]; omega
  have Hu := Lib.hid hu
  have Hbw := Lib.hid hbw
  have Hbl := Lib.hid hbl
  clear hu hbw hbl q2 hrd hlen2
  refine wp_region_held_drew (S := (fun w' => w'.cell? ⟨p, 0, none⟩ = some (.pointer (some ⟨t, 0, none⟩)))) (by kernel_rfl) (k0) (fun hS0 => ?_)
  refine wpAnyH_take (i := 0) (oi := _) (v := .pointer (some ⟨p, 0, none⟩)) rfl (by kernel_rfl) (by kernel_rfl) (by kernel_rfl) (fun _ _ _ h => h) (Or.inl ⟨by rfl, fun w hSw => ?_⟩) hS0 ?_
  · have x0 := hSw; go_simp
  try simp only [Act.put, List.setIfInBounds_toArray, List.set_cons_zero, List.set_cons_succ, List.getElem_toArray, List.getElem_cons_zero, List.getElem_cons_succ]
  refine wpAnyH_take (i := 2) (oi := _) (v := .slice (some ⟨b, 0, none⟩) c c) rfl (by kernel_rfl) (by kernel_rfl) (by kernel_rfl) (fun _ _ _ h => h) (Or.inl ⟨by rfl, fun w hSw => ?_⟩) hS0 ?_
  · have x0 := hSw; go_simp
  try simp only [Act.put, List.setIfInBounds_toArray, List.set_cons_zero, List.set_cons_succ, List.getElem_toArray, List.getElem_cons_zero, List.getElem_cons_succ]
  refine wpAnyH_take (i := 3) (oi := _) (v := .int .i64 a) rfl (by kernel_rfl) (by kernel_rfl) (by kernel_rfl) (fun _ _ _ h => h) (Or.inl ⟨by rfl, fun w hSw => ?_⟩) hS0 ?_
  · have x0 := hSw; go_simp
  try simp only [Act.put, List.setIfInBounds_toArray, List.set_cons_zero, List.set_cons_succ, List.getElem_toArray, List.getElem_cons_zero, List.getElem_cons_succ]
  refine wpAnyH_take (i := 4) (oi := _) (v := .int .i64 a) rfl (by kernel_rfl) (by kernel_rfl) (by kernel_rfl) (fun _ _ _ h => h) (Or.inl ⟨by rfl, fun w hSw => ?_⟩) hS0 ?_
  · have x0 := hSw; go_simp
  try simp only [Act.put, List.setIfInBounds_toArray, List.set_cons_zero, List.set_cons_succ, List.getElem_toArray, List.getElem_cons_zero, List.getElem_cons_succ]
  refine wpAnyH_take (i := 5) (oi := _) (v := .int .i64 m) rfl (by kernel_rfl) (by kernel_rfl) (by kernel_rfl) (fun _ _ _ h => h) (Or.inl ⟨by rfl, fun w hSw => ?_⟩) hS0 ?_
  · have x0 := hSw; go_simp
  try simp only [Act.put, List.setIfInBounds_toArray, List.set_cons_zero, List.set_cons_succ, List.getElem_toArray, List.getElem_cons_zero, List.getElem_cons_succ]
  refine wpAnyH_take (i := 6) (oi := _) (v := .int .i64 d) rfl (by kernel_rfl) (by kernel_rfl) (by kernel_rfl) (fun _ _ _ h => h) (Or.inl ⟨by rfl, fun w hSw => ?_⟩) hS0 ?_
  · have x0 := hSw; go_simp
  try simp only [Act.put, List.setIfInBounds_toArray, List.set_cons_zero, List.set_cons_succ, List.getElem_toArray, List.getElem_cons_zero, List.getElem_cons_succ]
  refine wpAnyH_take (i := 7) (oi := _) (v := .slice (some ⟨b, a, none⟩) (d - a) (c - a)) rfl (by kernel_rfl) (by kernel_rfl) (by kernel_rfl) (fun _ _ _ h => h) (Or.inl ⟨by rfl, fun w hSw => ?_⟩) hS0 ?_
  · have x0 := hSw; go_simp
  try simp only [Act.put, List.setIfInBounds_toArray, List.set_cons_zero, List.set_cons_succ, List.getElem_toArray, List.getElem_cons_zero, List.getElem_cons_succ]
  refine wpAnyH_take (i := 10) (oi := _) (v := .slice la n lc) rfl (by kernel_rfl) (by kernel_rfl) (by kernel_rfl) (fun _ _ _ h => h) (Or.inl ⟨by rfl, fun w hSw => ?_⟩) hS0 ?_
  · have x0 := hSw; go_simp
  try simp only [Act.put, List.setIfInBounds_toArray, List.set_cons_zero, List.set_cons_succ, List.getElem_toArray, List.getElem_cons_zero, List.getElem_cons_succ]
  refine wpAnyH_ready (rs := [1]) (by kernel_rfl) (by simp) (AllReadyH.cons (o := _) rfl (fun K' hK => ?_) AllReadyH.nil)
  simp only [List.getElem_toArray, List.getElem_cons_zero, List.getElem_cons_succ]
  rw [if_pos (by rfl)]
  go_simp
  refine Q1.out.mono ?_
  rintro e w2 ⟨rfl, rfl⟩
  refine hK.out _ _ (k0) (fun hS1 => ?_)
  clear hK K' hS0
  try simp only [Act.put, List.setIfInBounds_toArray, List.set_cons_zero, List.set_cons_succ, List.getElem_toArray, List.getElem_cons_zero, List.getElem_cons_succ]
  refine wpAnyH_ready (rs := [8]) (by kernel_rfl) (by simp) (AllReadyH.cons (o := _) rfl (fun K' hK => ?_) AllReadyH.nil)
  simp only [List.getElem_toArray, List.getElem_cons_zero, List.getElem_cons_succ]
  rw [if_pos (by rfl)]
  go_simp
  refine Q2.out.mono ?_
  rintro e w2 ⟨rfl, rfl⟩
  refine hK.out _ _ (k0) (fun hS2 => ?_)
  clear hK K' hS1
  try simp only [Act.put, List.setIfInBounds_toArray, List.set_cons_zero, List.set_cons_succ, List.getElem_toArray, List.getElem_cons_zero, List.getElem_cons_succ]
  refine wpAnyH_take (i := 9) (oi := _) (v := .int .i64 (bw - u : Nat)) rfl (by kernel_rfl) (by kernel_rfl) (by kernel_rfl) (fun _ _ _ h => h) (Or.inl ⟨by rfl, fun w hSw => ?_⟩) hS2 ?_
  · have x0 := hSw; go_simp
  try simp only [Act.put, List.setIfInBounds_toArray, List.set_cons_zero, List.set_cons_succ, List.getElem_toArray, List.getElem_cons_zero, List.getElem_cons_succ]
  refine wpAnyH_ready (rs := [11]) (by kernel_rfl) (by simp) (AllReadyH.cons (o := _) rfl (fun K' hK => ?_) AllReadyH.nil)
  simp only [List.getElem_toArray, List.getElem_cons_zero, List.getElem_cons_succ]
  rw [if_pos (by rfl)]
  go_simp
  refine Q3.out.mono ?_
  rintro e w2 ⟨rfl, rfl⟩
  refine hK.out _ _ (k0) (fun hS3 => ?_)
  clear hK K' hS2
  try simp only [Act.put, List.setIfInBounds_toArray, List.set_cons_zero, List.set_cons_succ, List.getElem_toArray, List.getElem_cons_zero, List.getElem_cons_succ]
  refine wpAnyH_take (i := 12) (oi := _) (v := .int .i64 (bw - u + bl : Nat)) rfl (by kernel_rfl) (by kernel_rfl) (by kernel_rfl) (fun _ _ _ h => h) (Or.inl ⟨by rfl, fun w hSw => ?_⟩) hS3 ?_
  · have x0 := hSw; go_simp
  try simp only [Act.put, List.setIfInBounds_toArray, List.set_cons_zero, List.set_cons_succ, List.getElem_toArray, List.getElem_cons_zero, List.getElem_cons_succ]
  refine wpAnyH_take (i := 13) (oi := _) (v := .bool (decide ((4096 : Int) < (bw - u + bl : Nat)))) rfl (by kernel_rfl) (by kernel_rfl) (by kernel_rfl) (fun _ _ _ h => h) (Or.inl ⟨by rfl, fun w hSw => ?_⟩) hS3 ?_
  · have x0 := hSw; go_simp
  try simp only [Act.put, List.setIfInBounds_toArray, List.set_cons_zero, List.set_cons_succ, List.getElem_toArray, List.getElem_cons_zero, List.getElem_cons_succ]
  refine wpAnyH_done (by kernel_rfl) ?_ _
  try dsimp only [Whole]
  have hrb := repL_bulk (W := W) (a := a) (n := m) (L := L) (by rw [← Hc.out]; exact ham)
  rw [← Hu.out, ← Hbw.out, ← Hbl.out] at hrb
  obtain ⟨rb, hrb2⟩ : ∃ rb, rb = bulkL (repL W a m L) := ⟨_, rfl⟩
  rw [← hrb2] at hrb
  rw [show bw - u + bl = rb by omega]
  have Hrb := Lib.hid hrb2
  have Hrbu := Lib.hid hrb
  clear hrb2 hws hwt hrb Q1 Q2 Q3
  by_cases hf : 4096 < rb
  · have hfI : (4096 : Int) < (rb : Int) := by omega
    go_wp2_with fail
    go_ret
    exact .inl ⟨by rw [← Hrb.out]; exact hf, rfl, H1.out.drop.drew⟩
  have hfI : ¬ ((4096 : Int) < (rb : Int)) := by omega
  have hjl : (joinL L).length ≤ bl := by rw [Hbl.out]; exact joinL_bulk L
  have Cj := Lib.hid (ljoin Hn.out H1.out.drew Hk.out.cons.cons (by omega) (by have := len_le_bulk L; rw [← Hbl.out] at this; omega))
  obtain ⟨jn, hjn⟩ : ∃ jn, jn = joinL L := ⟨_, rfl⟩
  rw [← hjn] at Cj hjl
  have Hjn := Lib.hid hjn
  clear hjn k0 hS3
  go_wp2_with fail
  refine Cj.out.mono ?_
  rintro e w3 ⟨rfl, h3⟩
  have H3 := Lib.hid h3.drop
  clear h3 Cj
  obtain ⟨t3, x3, T3, hI3, h4⟩ := bE H3.out
  have k0 : w3.cell? ⟨p, 0, none⟩ = some (.pointer (some ⟨t3, 0, none⟩)) := h4.cell (j := 0) rfl
  have k1 : w3.cell? ⟨p, 1, none⟩ = some (.pointer (some ⟨x3, 0, none⟩)) := h4.cell (j := 1) rfl
  have hlf := (noLF_iff W).2 HB.out.lf
  have hbk := brk_join hlf HB.out.ne
  rw [← Hc.out] at hbk
  have hjw := join_len HB.out.ne
  rw [← Hbw.out] at hjw
  have Clen := Lib.hid (ilen h4.p2)
  obtain ⟨tx, htx⟩ : ∃ tx, tx = joinL W := ⟨_, rfl⟩
  rw [← htx] at Clen hjw H3 hbk
  have Htx := Lib.hid htx
  obtain ⟨s0, hs0⟩ : ∃ s0, s0 = bulkL (W.take a) := ⟨_, rfl⟩
  have hs0b : s0 ≤ bw := by rw [hs0, Hbw.out]; exact bulkL_take_le W a
  have Hs0 := Lib.hid hs0
  have Cst := Lib.hid (istart_in (h := a) (by rw [← htx] at h4; exact h4.p2) (by omega))
  rw [show lstart tx a = s0 by rw [htx, hs0]; exact lstart_lines hlf (by rw [← Hc.out]; omega)] at Cst
  clear htx hs0 hbk hI3 h4 hlf
  have hjb : jn.length + 1 = bl := by rw [Hjn.out, Hbl.out]; exact join_len HLne.out
  have Hjb := Lib.hid hjb
  have hs1 : 0 < s0 := by rw [Hs0.out]; exact bulkL_pos (take_ne (by omega) (by rw [← Hc.out]; omega))
  have hw1 : IntKind.i64.wrap ((s0 : Int) - 1) = ((s0 - 1 : Nat) : Int) := by rw [IntKind.wrap_i64]; omega
  have hw2 : IntKind.i64.wrap ((tx.length : Int) - ((s0 - 1 : Nat) : Int)) = ((tx.length - (s0 - 1) : Nat) : Int) := by rw [IntKind.wrap_i64]; omega
  have hdc : ((d : Int) == (c : Int)) = true := by rw [show d = c by have := Hd.out; omega]; simp
  obtain ⟨e0, he0⟩ : ∃ e0, e0 = bulkL (W.take d) := ⟨_, rfl⟩
  have hmid : s0 + u = e0 := by rw [he0, Hs0.out, Hu.out, Hd.out]; exact bulk_mid W a m
  have hebw : e0 = bw := by rw [he0, Hbw.out, List.take_of_length_le (by rw [← Hc.out]; have := Hd.out; omega)]
  have hcat : ∀ w, (Op.stringOp .add (⟨#[10]⟩ : ByteArray) (bs jn)).run Tryz.prog w = .ok (.string (bs (10 :: jn))) w := fun w => run_bs_cat (a := [10]) (by simp; omega) w
  have cp := bput (s0 - 1) (tx.length - (s0 - 1)) (10 :: jn) (by omega) (by omega) (by have := Hrbu.out; simp only [List.length_cons]; omega) (by have h1 := Had.out; rw [← Hbl.out] at h1; have h2 := Hjb.out; (try simp only [List.length_cons, List.length_append, List.length_nil]); omega) (by omega) H3.out
  rw [show tx.take (s0 - 1) ++ (10 :: jn) ++ tx.drop (s0 - 1 + (tx.length - (s0 - 1))) = joinL (repL W a m L) by
    rw [List.drop_of_length_le (by omega), List.append_nil, Htx.out, Hs0.out, Hjn.out]
    exact rep_last (by rw [← Hc.out]; exact hac) (by omega) HLne.out] at cp
  have cp : Calls Tryz.prog 33 #[.pointer (some ⟨p, 0, none⟩), .int .i64 (s0 - 1 : Nat), .int .i64 (tx.length - (s0 - 1) : Nat), .string (bs (10 :: jn))] w3 _ := cp
  have Cp := Lib.hid cp
  clear cp
  clear hac hmid hebw he0 hjb
  go_wp2_with fail
  refine Cst.out.mono ?_
  rintro e w' ⟨rfl, rfl⟩
  go_wp2_with fail
  refine Clen.out.mono ?_
  rintro e w' ⟨rfl, rfl⟩
  go_wp2_with fail
  refine Cp.out.mono ?_
  rintro e w5 ⟨e5, rfl, h5⟩
  obtain ⟨he5, h5⟩ := h5.pureE
  have H5 := Lib.hid (bufMore (ad' := ad + bl) (by have := Hjb.out; (try simp only [List.length_cons, List.length_append, List.length_nil]); omega) h5)
  clear h5 Cp
  go_wp2_with fail
  go_ret
  refine .inr ⟨by rw [← Hrb.out]; omega, rfl, e5, he5, ?_⟩
  rw [← Hbl.out]
  exact H5.out
set_option maxHeartbeats 4000000 in
theorem brep_end0 {la : Option Addr} {n lc a m : Nat} (hB : BufI W) (hM : MaxInt w0) (ham : a + m ≤ W.length) (hn : n = L.length) (hk : RdL w0 R (.slice la n lc) L) (hbr : brokenB L = false) (hm : m = 0) (hac : a = W.length) (hL : L ≠ [])
    (hb : bulkL L ≤ 80000) (had : ad + bulkL L ≤ 90000) (hed : ed ≤ 10000) (H : Owns w0 w (tbufA p (joinL W) ed ad :: R)) :
    Calls Tryz.prog 13 #[.pointer (some ⟨p, 0, none⟩), .int .i64 a, .int .i64 m, .slice la n lc] w (RepP w0 R p ed ad W a m L) := by
  have C1 := Lib.hid (bcount hB H)
  have c2 := tbroken hn H hk.cons
  rw [hbr] at c2
  have C2 := Lib.hid c2
  have C3 := Lib.hid (blines hB hM H)
  have HB := Lib.hid hB
  have Hn := Lib.hid hn
  have Hk := Lib.hid hk
  have Hb := Lib.hid hb
  have Had := Lib.hid had
  have hcnt := hB.cnt
  obtain ⟨c, hc⟩ : ∃ c, c = W.length := ⟨_, rfl⟩
  rw [← hc] at C1 C3 ham hcnt hac
  have Hc := Lib.hid hc
  have hc0 : 0 < c := by rw [hc]; exact List.length_pos_iff.2 hB.ne
  have hncap : n ≤ lc := SrcV.capLe (by have := hk w H.drop; rw [← hn] at this; exact this)
  have hn0 : 0 < n := by rw [hn]; exact List.length_pos_iff.2 hL
  have hnz : ((n : Int) == 0) = false := beq_eq_false_iff_ne.2 (by omega)
  have hmc : ((m : Int) == (c : Int)) = false := beq_eq_false_iff_ne.2 (by omega)
  have hmz : ((m : Int) == 0) = true := by rw [show m = 0 by omega]; rfl
  obtain rfl : c = a := hac.symm
  have Hm := Lib.hid hm
  clear hm
  have HLne := Lib.hid hL
  clear hL

  clear H hB hc hk hn hbr c2 hb hM had
  have hw : IntKind.i64.wrap ((c : Int) - c) = (c : Int) - c := by rw [IntKind.wrap_i64]; omega
  have h3 : ¬ ((c : Int) < c) := by omega
  have h4 : ¬ ((c : Int) - c < m) := by omega
  go_enter Tryz.func13, Tryz.ntmps13
  go_wp2_with fail
  refine C1.out.mono ?_
  rintro e w' ⟨rfl, rfl⟩
  clear C1
  go_wp2_with fail
  refine C2.out.mono ?_
  rintro e w' ⟨rfl, rfl⟩
  clear C2
  go_wp2_with fail
  refine C3.out.mono ?_
  rintro e w1 ⟨b, rfl, h1⟩
  have H1 := Lib.hid (show Owns w0 w1 (row_str (.slice (some ⟨b, 0, none⟩) c c) c (lstrs W) :: tbufA p (joinL W) ed ad :: R) by rw [Hc.out]; exact h1)
  clear h1 C3
  obtain ⟨d, hd⟩ : ∃ d, d = c + m := ⟨_, rfl⟩
  have hwd : IntKind.i64.wrap ((c : Int) + m) = (d : Int) := by rw [IntKind.wrap_i64]; omega
  have had1 : c ≤ d := by omega
  have had2 : d ≤ c := by omega
  have Hd := Lib.hid hd
  clear hd
  obtain rfl : c = d := by have := Hd.out; have := Hm.out; omega
  have hwc : IntKind.i64.wrap (c : Int) = (c : Int) := by rw [IntKind.wrap_i64]; omega
  go_upto_region 7 with (fail)
  obtain ⟨t, x, T, hI, ht⟩ := bE H1.out.p1.drew
  have k0 : w1.drew.cell? ⟨p, 0, none⟩ = some (.pointer (some ⟨t, 0, none⟩)) := ht.cell (j := 0) rfl
  have Q1 := Lib.hid (bbytes HB.out (H1.out.p1.drew))
  have Q3 := Lib.hid (tsize Hn.out H1.out.drew Hk.out.cons.cons (by have := Hb.out; omega))
  clear hI ht
  obtain ⟨u, hu⟩ : ∃ u, u = bulkL ((W.drop c).take m) := ⟨_, rfl⟩
  have hlen2 : ((W.drop c).take m).length = 0 := by rw [List.length_take, List.length_drop, ← Hc.out, Hd.out]; omega
  have hrd : RdL w0 (row_str (.slice (some ⟨b, 0, none⟩) c c) c (lstrs W) :: tbufA p (joinL W) ed ad :: R) (.slice (some ⟨b, 0, none⟩) 0 0) ((W.drop c).take m) := by
    have e : (W.drop c).take m = [] := by rw [Hm.out, List.take_zero]
    rw [e]
    exact fun wx hx => .inr ⟨_, _, rfl, Nat.le_refl _, Nat.zero_le _, rfl, fun j u hj => by simp [lstrs, strs] at hj⟩
  have hub : u ≤ bulkL W := by
    have h1 := bulkL_append (W.take c) (W.drop c)
    have h2 := bulkL_append ((W.drop c).take m) ((W.drop c).drop m)
    rw [List.take_append_drop] at h1 h2
    omega
  have q2 := tsize hlen2.symm H1.out.drew hrd (by have := HB.out.bulk; omega)
  rw [← hu] at q2
  have Q2 := Lib.hid q2
  obtain ⟨bw, hbw⟩ : ∃ bw, bw = bulkL W := ⟨_, rfl⟩
  obtain ⟨bl, hbl⟩ : ∃ bl, bl = bulkL L := ⟨_, rfl⟩
  rw [← hbw] at Q1 hub
  rw [← hbl] at Q3
  have hbw2 : bw ≤ 4096 := by rw [hbw]; exact HB.out.bulk
  have hbl2 : bl ≤ 80000 := by rw [hbl]; exact Hb.out
  have hws : IntKind.i64.wrap ((bw : Int) - u) = ((bw - u : Nat) : Int) := by rw [IntKind.wrap_i64]; omega
  have hwt : IntKind.i64.wrap (((bw - u : Nat) : Int) + bl) = ((bw - u + bl : Nat) : Int) := by rw [IntKind.wrap_i64]; omega
  have Hu := Lib.hid hu
  have Hbw := Lib.hid hbw
  have Hbl := Lib.hid hbl
  clear hu hbw hbl q2 hrd hlen2
  refine wp_region_held_drew (S := (fun w' => w'.cell? ⟨p, 0, none⟩ = some (.pointer (some ⟨t, 0, none⟩)))) (by kernel_rfl) (k0) (fun hS0 => ?_)
  refine wpAnyH_take (i := 0) (oi := _) (v := .pointer (some ⟨p, 0, none⟩)) rfl (by kernel_rfl) (by kernel_rfl) (by kernel_rfl) (fun _ _ _ h => h) (Or.inl ⟨by rfl, fun w hSw => ?_⟩) hS0 ?_
  · have x0 := hSw; go_simp
  try simp only [Act.put, List.setIfInBounds_toArray, List.set_cons_zero, List.set_cons_succ, List.getElem_toArray, List.getElem_cons_zero, List.getElem_cons_succ]
  refine wpAnyH_take (i := 2) (oi := _) (v := .slice (some ⟨b, 0, none⟩) c c) rfl (by kernel_rfl) (by kernel_rfl) (by kernel_rfl) (fun _ _ _ h => h) (Or.inl ⟨by rfl, fun w hSw => ?_⟩) hS0 ?_
  · have x0 := hSw; go_simp
  try simp only [Act.put, List.setIfInBounds_toArray, List.set_cons_zero, List.set_cons_succ, List.getElem_toArray, List.getElem_cons_zero, List.getElem_cons_succ]
  refine wpAnyH_take (i := 3) (oi := _) (v := .int .i64 c) rfl (by kernel_rfl) (by kernel_rfl) (by kernel_rfl) (fun _ _ _ h => h) (Or.inl ⟨by rfl, fun w hSw => ?_⟩) hS0 ?_
  · have x0 := hSw; go_simp
  try simp only [Act.put, List.setIfInBounds_toArray, List.set_cons_zero, List.set_cons_succ, List.getElem_toArray, List.getElem_cons_zero, List.getElem_cons_succ]
  refine wpAnyH_take (i := 4) (oi := _) (v := .int .i64 c) rfl (by kernel_rfl) (by kernel_rfl) (by kernel_rfl) (fun _ _ _ h => h) (Or.inl ⟨by rfl, fun w hSw => ?_⟩) hS0 ?_
  · have x0 := hSw; go_simp
  try simp only [Act.put, List.setIfInBounds_toArray, List.set_cons_zero, List.set_cons_succ, List.getElem_toArray, List.getElem_cons_zero, List.getElem_cons_succ]
  refine wpAnyH_take (i := 5) (oi := _) (v := .int .i64 m) rfl (by kernel_rfl) (by kernel_rfl) (by kernel_rfl) (fun _ _ _ h => h) (Or.inl ⟨by rfl, fun w hSw => ?_⟩) hS0 ?_
  · have x0 := hSw; go_simp
  try simp only [Act.put, List.setIfInBounds_toArray, List.set_cons_zero, List.set_cons_succ, List.getElem_toArray, List.getElem_cons_zero, List.getElem_cons_succ]
  refine wpAnyH_take (i := 6) (oi := _) (v := .int .i64 c) rfl (by kernel_rfl) (by kernel_rfl) (by kernel_rfl) (fun _ _ _ h => h) (Or.inl ⟨by rfl, fun w hSw => ?_⟩) hS0 ?_
  · have x0 := hSw; go_simp
  try simp only [Act.put, List.setIfInBounds_toArray, List.set_cons_zero, List.set_cons_succ, List.getElem_toArray, List.getElem_cons_zero, List.getElem_cons_succ]
  refine wpAnyH_take (i := 7) (oi := _) (v := .slice (some ⟨b, 0, none⟩) 0 0) rfl (by kernel_rfl) (by kernel_rfl) (by kernel_rfl) (fun _ _ _ h => h) (Or.inl ⟨by rfl, fun w hSw => ?_⟩) hS0 ?_
  · have x0 := hSw; go_simp
  try simp only [Act.put, List.setIfInBounds_toArray, List.set_cons_zero, List.set_cons_succ, List.getElem_toArray, List.getElem_cons_zero, List.getElem_cons_succ]
  refine wpAnyH_take (i := 10) (oi := _) (v := .slice la n lc) rfl (by kernel_rfl) (by kernel_rfl) (by kernel_rfl) (fun _ _ _ h => h) (Or.inl ⟨by rfl, fun w hSw => ?_⟩) hS0 ?_
  · have x0 := hSw; go_simp
  try simp only [Act.put, List.setIfInBounds_toArray, List.set_cons_zero, List.set_cons_succ, List.getElem_toArray, List.getElem_cons_zero, List.getElem_cons_succ]
  refine wpAnyH_ready (rs := [1]) (by kernel_rfl) (by simp) (AllReadyH.cons (o := _) rfl (fun K' hK => ?_) AllReadyH.nil)
  simp only [List.getElem_toArray, List.getElem_cons_zero, List.getElem_cons_succ]
  rw [if_pos (by rfl)]
  go_simp
  refine Q1.out.mono ?_
  rintro e w2 ⟨rfl, rfl⟩
  refine hK.out _ _ (k0) (fun hS1 => ?_)
  clear hK K' hS0
  try simp only [Act.put, List.setIfInBounds_toArray, List.set_cons_zero, List.set_cons_succ, List.getElem_toArray, List.getElem_cons_zero, List.getElem_cons_succ]
  refine wpAnyH_ready (rs := [8]) (by kernel_rfl) (by simp) (AllReadyH.cons (o := _) rfl (fun K' hK => ?_) AllReadyH.nil)
  simp only [List.getElem_toArray, List.getElem_cons_zero, List.getElem_cons_succ]
  rw [if_pos (by rfl)]
  go_simp
  refine Q2.out.mono ?_
  rintro e w2 ⟨rfl, rfl⟩
  refine hK.out _ _ (k0) (fun hS2 => ?_)
  clear hK K' hS1
  try simp only [Act.put, List.setIfInBounds_toArray, List.set_cons_zero, List.set_cons_succ, List.getElem_toArray, List.getElem_cons_zero, List.getElem_cons_succ]
  refine wpAnyH_take (i := 9) (oi := _) (v := .int .i64 (bw - u : Nat)) rfl (by kernel_rfl) (by kernel_rfl) (by kernel_rfl) (fun _ _ _ h => h) (Or.inl ⟨by rfl, fun w hSw => ?_⟩) hS2 ?_
  · have x0 := hSw; go_simp
  try simp only [Act.put, List.setIfInBounds_toArray, List.set_cons_zero, List.set_cons_succ, List.getElem_toArray, List.getElem_cons_zero, List.getElem_cons_succ]
  refine wpAnyH_ready (rs := [11]) (by kernel_rfl) (by simp) (AllReadyH.cons (o := _) rfl (fun K' hK => ?_) AllReadyH.nil)
  simp only [List.getElem_toArray, List.getElem_cons_zero, List.getElem_cons_succ]
  rw [if_pos (by rfl)]
  go_simp
  refine Q3.out.mono ?_
  rintro e w2 ⟨rfl, rfl⟩
  refine hK.out _ _ (k0) (fun hS3 => ?_)
  clear hK K' hS2
  try simp only [Act.put, List.setIfInBounds_toArray, List.set_cons_zero, List.set_cons_succ, List.getElem_toArray, List.getElem_cons_zero, List.getElem_cons_succ]
  refine wpAnyH_take (i := 12) (oi := _) (v := .int .i64 (bw - u + bl : Nat)) rfl (by kernel_rfl) (by kernel_rfl) (by kernel_rfl) (fun _ _ _ h => h) (Or.inl ⟨by rfl, fun w hSw => ?_⟩) hS3 ?_
  · have x0 := hSw; go_simp
  try simp only [Act.put, List.setIfInBounds_toArray, List.set_cons_zero, List.set_cons_succ, List.getElem_toArray, List.getElem_cons_zero, List.getElem_cons_succ]
  refine wpAnyH_take (i := 13) (oi := _) (v := .bool (decide ((4096 : Int) < (bw - u + bl : Nat)))) rfl (by kernel_rfl) (by kernel_rfl) (by kernel_rfl) (fun _ _ _ h => h) (Or.inl ⟨by rfl, fun w hSw => ?_⟩) hS3 ?_
  · have x0 := hSw; go_simp
  try simp only [Act.put, List.setIfInBounds_toArray, List.set_cons_zero, List.set_cons_succ, List.getElem_toArray, List.getElem_cons_zero, List.getElem_cons_succ]
  refine wpAnyH_done (by kernel_rfl) ?_ _
  try dsimp only [Whole]
  have hrb := repL_bulk (W := W) (a := c) (n := m) (L := L) (by rw [← Hc.out]; exact ham)
  rw [← Hu.out, ← Hbw.out, ← Hbl.out] at hrb
  obtain ⟨rb, hrb2⟩ : ∃ rb, rb = bulkL (repL W c m L) := ⟨_, rfl⟩
  rw [← hrb2] at hrb
  rw [show bw - u + bl = rb by omega]
  have Hrb := Lib.hid hrb2
  have Hrbu := Lib.hid hrb
  clear hrb2 hws hwt hrb Q1 Q2 Q3
  by_cases hf : 4096 < rb
  · have hfI : (4096 : Int) < (rb : Int) := by omega
    go_wp2_with fail
    go_ret
    exact .inl ⟨by rw [← Hrb.out]; exact hf, rfl, H1.out.drop.drew⟩
  have hfI : ¬ ((4096 : Int) < (rb : Int)) := by omega
  have hjl : (joinL L).length ≤ bl := by rw [Hbl.out]; exact joinL_bulk L
  have Cj := Lib.hid (ljoin Hn.out H1.out.drew Hk.out.cons.cons (by omega) (by have := len_le_bulk L; rw [← Hbl.out] at this; omega))
  obtain ⟨jn, hjn⟩ : ∃ jn, jn = joinL L := ⟨_, rfl⟩
  rw [← hjn] at Cj hjl
  have Hjn := Lib.hid hjn
  clear hjn k0 hS3
  go_wp2_with fail
  refine Cj.out.mono ?_
  rintro e w3 ⟨rfl, h3⟩
  have H3 := Lib.hid h3.drop
  clear h3 Cj
  obtain ⟨t3, x3, T3, hI3, h4⟩ := bE H3.out
  have k0 : w3.cell? ⟨p, 0, none⟩ = some (.pointer (some ⟨t3, 0, none⟩)) := h4.cell (j := 0) rfl
  have k1 : w3.cell? ⟨p, 1, none⟩ = some (.pointer (some ⟨x3, 0, none⟩)) := h4.cell (j := 1) rfl
  have hlf := (noLF_iff W).2 HB.out.lf
  have hbk := brk_join hlf HB.out.ne
  rw [← Hc.out] at hbk
  have hjw := join_len HB.out.ne
  rw [← Hbw.out] at hjw
  have Clen := Lib.hid (ilen h4.p2)
  obtain ⟨tx, htx⟩ : ∃ tx, tx = joinL W := ⟨_, rfl⟩
  rw [← htx] at Clen hjw H3 hbk
  have Htx := Lib.hid htx
  obtain ⟨s0, hs0⟩ : ∃ s0, s0 = bulkL (W.take c) := ⟨_, rfl⟩
  have hs0b : s0 ≤ bw := by rw [hs0, Hbw.out]; exact bulkL_take_le W c
  have Hs0 := Lib.hid hs0
  have Cst := Lib.hid (istart_out (i := (c : Int)) (by rw [← htx] at h4; exact h4.p2) (by omega))
  have hsc : s0 = bw := by rw [hs0, Hbw.out, List.take_of_length_le (by rw [← Hc.out]; omega)]
  have hwl : IntKind.i64.wrap ((tx.length : Int) + 1) = (s0 : Int) := by rw [IntKind.wrap_i64]; omega
  have Hsc := Lib.hid hsc
  clear hsc
  clear htx hs0 hbk hI3 h4 hlf
  have hjb : jn.length + 1 = bl := by rw [Hjn.out, Hbl.out]; exact join_len HLne.out
  have Hjb := Lib.hid hjb
  have hs1 : 0 < s0 := by rw [Hs0.out]; exact bulkL_pos (take_ne (by omega) (by rw [← Hc.out]; omega))
  have hw1 : IntKind.i64.wrap ((s0 : Int) - 1) = ((s0 - 1 : Nat) : Int) := by rw [IntKind.wrap_i64]; omega
  have hw2 : IntKind.i64.wrap ((tx.length : Int) - ((s0 - 1 : Nat) : Int)) = ((tx.length - (s0 - 1) : Nat) : Int) := by rw [IntKind.wrap_i64]; omega
  have Hu0 := Lib.hid (show u = 0 by rw [Hu.out, Hm.out]; rfl)
  have hcat : ∀ w, (Op.stringOp .add (⟨#[10]⟩ : ByteArray) (bs jn)).run Tryz.prog w = .ok (.string (bs (10 :: jn))) w := fun w => run_bs_cat (a := [10]) (by simp; omega) w
  have cp := bput (s0 - 1) (tx.length - (s0 - 1)) (10 :: jn) (by omega) (by omega) (by have := Hrbu.out; have := Hsc.out; have := Hu0.out; simp only [List.length_cons]; omega) (by have h1 := Had.out; rw [← Hbl.out] at h1; have h2 := Hjb.out; (try simp only [List.length_cons, List.length_append, List.length_nil]); omega) (by omega) H3.out
  rw [show tx.take (s0 - 1) ++ (10 :: jn) ++ tx.drop (s0 - 1 + (tx.length - (s0 - 1))) = joinL (repL W c m L) by
    rw [List.drop_of_length_le (by omega), List.append_nil, Htx.out, Hs0.out, Hjn.out]
    exact rep_last (by rw [← Hc.out, Hm.out]; rfl) (by omega) HLne.out] at cp
  have cp : Calls Tryz.prog 33 #[.pointer (some ⟨p, 0, none⟩), .int .i64 (s0 - 1 : Nat), .int .i64 (tx.length - (s0 - 1) : Nat), .string (bs (10 :: jn))] w3 _ := cp
  have Cp := Lib.hid cp
  clear cp
  clear hjb
  go_wp2_with fail
  refine Cst.out.mono ?_
  rintro e w' ⟨rfl, rfl⟩
  go_wp2_with fail
  refine Clen.out.mono ?_
  rintro e w' ⟨rfl, rfl⟩
  go_wp2_with fail
  refine Clen.out.mono ?_
  rintro e w' ⟨rfl, rfl⟩
  go_wp2_with fail
  refine Cp.out.mono ?_
  rintro e w5 ⟨e5, rfl, h5⟩
  obtain ⟨he5, h5⟩ := h5.pureE
  have H5 := Lib.hid (bufMore (ad' := ad + bl) (by have := Hjb.out; (try simp only [List.length_cons, List.length_append, List.length_nil]); omega) h5)
  clear h5 Cp
  go_wp2_with fail
  go_ret
  refine .inr ⟨by rw [← Hrb.out]; omega, rfl, e5, he5, ?_⟩
  rw [← Hbl.out]
  exact H5.out
set_option maxHeartbeats 4000000 in
theorem brep_in0 {la : Option Addr} {n lc a m : Nat} (hB : BufI W) (hM : MaxInt w0) (ham : a + m ≤ W.length) (hn : n = L.length) (hk : RdL w0 R (.slice la n lc) L) (hbr : brokenB L = false) (hm : m = 0) (hac : a < W.length) (hL : L ≠ [])
    (hb : bulkL L ≤ 80000) (had : ad + bulkL L ≤ 90000) (hed : ed ≤ 10000) (H : Owns w0 w (tbufA p (joinL W) ed ad :: R)) :
    Calls Tryz.prog 13 #[.pointer (some ⟨p, 0, none⟩), .int .i64 a, .int .i64 m, .slice la n lc] w (RepP w0 R p ed ad W a m L) := by
  have C1 := Lib.hid (bcount hB H)
  have c2 := tbroken hn H hk.cons
  rw [hbr] at c2
  have C2 := Lib.hid c2
  have C3 := Lib.hid (blines hB hM H)
  have HB := Lib.hid hB
  have Hn := Lib.hid hn
  have Hk := Lib.hid hk
  have Hb := Lib.hid hb
  have Had := Lib.hid had
  have hcnt := hB.cnt
  obtain ⟨c, hc⟩ : ∃ c, c = W.length := ⟨_, rfl⟩
  rw [← hc] at C1 C3 ham hcnt hac
  have Hc := Lib.hid hc
  have hc0 : 0 < c := by rw [hc]; exact List.length_pos_iff.2 hB.ne
  have hncap : n ≤ lc := SrcV.capLe (by have := hk w H.drop; rw [← hn] at this; exact this)
  have hn0 : 0 < n := by rw [hn]; exact List.length_pos_iff.2 hL
  have hnz : ((n : Int) == 0) = false := beq_eq_false_iff_ne.2 (by omega)
  have hmc : ((m : Int) == (c : Int)) = false := beq_eq_false_iff_ne.2 (by omega)
  have hmz : ((m : Int) == 0) = true := by rw [show m = 0 by omega]; rfl
  have hca : ¬ c = a := by omega
  have Hm := Lib.hid hm
  clear hm
  have HLne := Lib.hid hL
  clear hL

  clear H hB hc hk hn hbr c2 hb hM had
  have hw : IntKind.i64.wrap ((c : Int) - a) = (c : Int) - a := by rw [IntKind.wrap_i64]; omega
  have h3 : ¬ ((c : Int) < a) := by omega
  have h4 : ¬ ((c : Int) - a < m) := by omega
  go_enter Tryz.func13, Tryz.ntmps13
  go_wp2_with fail
  refine C1.out.mono ?_
  rintro e w' ⟨rfl, rfl⟩
  clear C1
  go_wp2_with fail
  refine C2.out.mono ?_
  rintro e w' ⟨rfl, rfl⟩
  clear C2
  go_wp2_with fail
  refine C3.out.mono ?_
  rintro e w1 ⟨b, rfl, h1⟩
  have H1 := Lib.hid (show Owns w0 w1 (row_str (.slice (some ⟨b, 0, none⟩) c c) c (lstrs W) :: tbufA p (joinL W) ed ad :: R) by rw [Hc.out]; exact h1)
  clear h1 C3
  obtain ⟨d, hd⟩ : ∃ d, d = a + m := ⟨_, rfl⟩
  have hwd : IntKind.i64.wrap ((a : Int) + m) = (d : Int) := by rw [IntKind.wrap_i64]; omega
  have had1 : a ≤ d := by omega
  have had2 : d ≤ c := by omega
  have Hd := Lib.hid hd
  clear hd
  go_upto_region 7 with (fail)
  obtain ⟨t, x, T, hI, ht⟩ := bE H1.out.p1.drew
  have k0 : w1.drew.cell? ⟨p, 0, none⟩ = some (.pointer (some ⟨t, 0, none⟩)) := ht.cell (j := 0) rfl
  have Q1 := Lib.hid (bbytes HB.out (H1.out.p1.drew))
  have Q3 := Lib.hid (tsize Hn.out H1.out.drew Hk.out.cons.cons (by have := Hb.out; omega))
  clear hI ht
  obtain ⟨u, hu⟩ : ∃ u, u = bulkL ((W.drop a).take m) := ⟨_, rfl⟩
  have hlen2 : ((W.drop a).take m).length = d - a := by rw [List.length_take, List.length_drop, ← Hc.out, Hd.out]; omega
  have hrd : RdL w0 (row_str (.slice (some ⟨b, 0, none⟩) c c) c (lstrs W) :: tbufA p (joinL W) ed ad :: R) (.slice (some ⟨b, a, none⟩) (d - a) (c - a)) ((W.drop a).take m) := by
    have h := Reads.mid (Reads.row (w0 := w0) (e := 9) (k := 1) (v := .slice (some ⟨b, 0, none⟩) c c) (n := c) (xs := lstrs W) (R := row_str (.slice (some ⟨b, 0, none⟩) c c) c (lstrs W) :: tbufA p (joinL W) ed ad :: R) List.mem_cons_self) (q := a) (r := d - a) (by omega) hca
    unfold RdL
    rw [hlen2]
    have e2 : (((lstrs W).drop a).take (d - a)) = lstrs ((W.drop a).take m) := by
      rw [show d - a = m by have := Hd.out; omega]
      simp [lstrs, strs, List.map_take, List.map_drop]
    rw [e2] at h
    have e1 : Option.map (fun x : Addr => x.add a) (some ⟨b, 0, none⟩) = some ⟨b, a, none⟩ := by simp [Addr.add_lit]
    rw [e1] at h
    exact h
  have hub : u ≤ bulkL W := by
    have h1 := bulkL_append (W.take a) (W.drop a)
    have h2 := bulkL_append ((W.drop a).take m) ((W.drop a).drop m)
    rw [List.take_append_drop] at h1 h2
    omega
  have q2 := tsize hlen2.symm H1.out.drew hrd (by have := HB.out.bulk; omega)
  rw [← hu] at q2
  have Q2 := Lib.hid q2
  obtain ⟨bw, hbw⟩ : ∃ bw, bw = bulkL W := ⟨_, rfl⟩
  obtain ⟨bl, hbl⟩ : ∃ bl, bl = bulkL L := ⟨_, rfl⟩
  rw [← hbw] at Q1 hub
  rw [← hbl] at Q3
  have hbw2 : bw ≤ 4096 := by rw [hbw]; exact HB.out.bulk
  have hbl2 : bl ≤ 80000 := by rw [hbl]; exact Hb.out
  have hws : IntKind.i64.wrap ((bw : Int) - u) = ((bw - u : Nat) : Int) := by rw [IntKind.wrap_i64]; omega
  have hwt : IntKind.i64.wrap (((bw - u : Nat) : Int) + bl) = ((bw - u + bl : Nat) : Int) := by rw [IntKind.wrap_i64]; omega
  have Hu := Lib.hid hu
  have Hbw := Lib.hid hbw
  have Hbl := Lib.hid hbl
  clear hu hbw hbl q2 hrd hlen2
  refine wp_region_held_drew (S := (fun w' => w'.cell? ⟨p, 0, none⟩ = some (.pointer (some ⟨t, 0, none⟩)))) (by kernel_rfl) (k0) (fun hS0 => ?_)
  refine wpAnyH_take (i := 0) (oi := _) (v := .pointer (some ⟨p, 0, none⟩)) rfl (by kernel_rfl) (by kernel_rfl) (by kernel_rfl) (fun _ _ _ h => h) (Or.inl ⟨by rfl, fun w hSw => ?_⟩) hS0 ?_
  · have x0 := hSw; go_simp
  try simp only [Act.put, List.setIfInBounds_toArray, List.set_cons_zero, List.set_cons_succ, List.getElem_toArray, List.getElem_cons_zero, List.getElem_cons_succ]
  refine wpAnyH_take (i := 2) (oi := _) (v := .slice (some ⟨b, 0, none⟩) c c) rfl (by kernel_rfl) (by kernel_rfl) (by kernel_rfl) (fun _ _ _ h => h) (Or.inl ⟨by rfl, fun w hSw => ?_⟩) hS0 ?_
  · have x0 := hSw; go_simp
  try simp only [Act.put, List.setIfInBounds_toArray, List.set_cons_zero, List.set_cons_succ, List.getElem_toArray, List.getElem_cons_zero, List.getElem_cons_succ]
  refine wpAnyH_take (i := 3) (oi := _) (v := .int .i64 a) rfl (by kernel_rfl) (by kernel_rfl) (by kernel_rfl) (fun _ _ _ h => h) (Or.inl ⟨by rfl, fun w hSw => ?_⟩) hS0 ?_
  · have x0 := hSw; go_simp
  try simp only [Act.put, List.setIfInBounds_toArray, List.set_cons_zero, List.set_cons_succ, List.getElem_toArray, List.getElem_cons_zero, List.getElem_cons_succ]
  refine wpAnyH_take (i := 4) (oi := _) (v := .int .i64 a) rfl (by kernel_rfl) (by kernel_rfl) (by kernel_rfl) (fun _ _ _ h => h) (Or.inl ⟨by rfl, fun w hSw => ?_⟩) hS0 ?_
  · have x0 := hSw; go_simp
  try simp only [Act.put, List.setIfInBounds_toArray, List.set_cons_zero, List.set_cons_succ, List.getElem_toArray, List.getElem_cons_zero, List.getElem_cons_succ]
  refine wpAnyH_take (i := 5) (oi := _) (v := .int .i64 m) rfl (by kernel_rfl) (by kernel_rfl) (by kernel_rfl) (fun _ _ _ h => h) (Or.inl ⟨by rfl, fun w hSw => ?_⟩) hS0 ?_
  · have x0 := hSw; go_simp
  try simp only [Act.put, List.setIfInBounds_toArray, List.set_cons_zero, List.set_cons_succ, List.getElem_toArray, List.getElem_cons_zero, List.getElem_cons_succ]
  refine wpAnyH_take (i := 6) (oi := _) (v := .int .i64 d) rfl (by kernel_rfl) (by kernel_rfl) (by kernel_rfl) (fun _ _ _ h => h) (Or.inl ⟨by rfl, fun w hSw => ?_⟩) hS0 ?_
  · have x0 := hSw; go_simp
  try simp only [Act.put, List.setIfInBounds_toArray, List.set_cons_zero, List.set_cons_succ, List.getElem_toArray, List.getElem_cons_zero, List.getElem_cons_succ]
  refine wpAnyH_take (i := 7) (oi := _) (v := .slice (some ⟨b, a, none⟩) (d - a) (c - a)) rfl (by kernel_rfl) (by kernel_rfl) (by kernel_rfl) (fun _ _ _ h => h) (Or.inl ⟨by rfl, fun w hSw => ?_⟩) hS0 ?_
  · have x0 := hSw; go_simp
  try simp only [Act.put, List.setIfInBounds_toArray, List.set_cons_zero, List.set_cons_succ, List.getElem_toArray, List.getElem_cons_zero, List.getElem_cons_succ]
  refine wpAnyH_take (i := 10) (oi := _) (v := .slice la n lc) rfl (by kernel_rfl) (by kernel_rfl) (by kernel_rfl) (fun _ _ _ h => h) (Or.inl ⟨by rfl, fun w hSw => ?_⟩) hS0 ?_
  · have x0 := hSw; go_simp
  try simp only [Act.put, List.setIfInBounds_toArray, List.set_cons_zero, List.set_cons_succ, List.getElem_toArray, List.getElem_cons_zero, List.getElem_cons_succ]
  refine wpAnyH_ready (rs := [1]) (by kernel_rfl) (by simp) (AllReadyH.cons (o := _) rfl (fun K' hK => ?_) AllReadyH.nil)
  simp only [List.getElem_toArray, List.getElem_cons_zero, List.getElem_cons_succ]
  rw [if_pos (by rfl)]
  go_simp
  refine Q1.out.mono ?_
  rintro e w2 ⟨rfl, rfl⟩
  refine hK.out _ _ (k0) (fun hS1 => ?_)
  clear hK K' hS0
  try simp only [Act.put, List.setIfInBounds_toArray, List.set_cons_zero, List.set_cons_succ, List.getElem_toArray, List.getElem_cons_zero, List.getElem_cons_succ]
  refine wpAnyH_ready (rs := [8]) (by kernel_rfl) (by simp) (AllReadyH.cons (o := _) rfl (fun K' hK => ?_) AllReadyH.nil)
  simp only [List.getElem_toArray, List.getElem_cons_zero, List.getElem_cons_succ]
  rw [if_pos (by rfl)]
  go_simp
  refine Q2.out.mono ?_
  rintro e w2 ⟨rfl, rfl⟩
  refine hK.out _ _ (k0) (fun hS2 => ?_)
  clear hK K' hS1
  try simp only [Act.put, List.setIfInBounds_toArray, List.set_cons_zero, List.set_cons_succ, List.getElem_toArray, List.getElem_cons_zero, List.getElem_cons_succ]
  refine wpAnyH_take (i := 9) (oi := _) (v := .int .i64 (bw - u : Nat)) rfl (by kernel_rfl) (by kernel_rfl) (by kernel_rfl) (fun _ _ _ h => h) (Or.inl ⟨by rfl, fun w hSw => ?_⟩) hS2 ?_
  · have x0 := hSw; go_simp
  try simp only [Act.put, List.setIfInBounds_toArray, List.set_cons_zero, List.set_cons_succ, List.getElem_toArray, List.getElem_cons_zero, List.getElem_cons_succ]
  refine wpAnyH_ready (rs := [11]) (by kernel_rfl) (by simp) (AllReadyH.cons (o := _) rfl (fun K' hK => ?_) AllReadyH.nil)
  simp only [List.getElem_toArray, List.getElem_cons_zero, List.getElem_cons_succ]
  rw [if_pos (by rfl)]
  go_simp
  refine Q3.out.mono ?_
  rintro e w2 ⟨rfl, rfl⟩
  refine hK.out _ _ (k0) (fun hS3 => ?_)
  clear hK K' hS2
  try simp only [Act.put, List.setIfInBounds_toArray, List.set_cons_zero, List.set_cons_succ, List.getElem_toArray, List.getElem_cons_zero, List.getElem_cons_succ]
  refine wpAnyH_take (i := 12) (oi := _) (v := .int .i64 (bw - u + bl : Nat)) rfl (by kernel_rfl) (by kernel_rfl) (by kernel_rfl) (fun _ _ _ h => h) (Or.inl ⟨by rfl, fun w hSw => ?_⟩) hS3 ?_
  · have x0 := hSw; go_simp
  try simp only [Act.put, List.setIfInBounds_toArray, List.set_cons_zero, List.set_cons_succ, List.getElem_toArray, List.getElem_cons_zero, List.getElem_cons_succ]
  refine wpAnyH_take (i := 13) (oi := _) (v := .bool (decide ((4096 : Int) < (bw - u + bl : Nat)))) rfl (by kernel_rfl) (by kernel_rfl) (by kernel_rfl) (fun _ _ _ h => h) (Or.inl ⟨by rfl, fun w hSw => ?_⟩) hS3 ?_
  · have x0 := hSw; go_simp
  try simp only [Act.put, List.setIfInBounds_toArray, List.set_cons_zero, List.set_cons_succ, List.getElem_toArray, List.getElem_cons_zero, List.getElem_cons_succ]
  refine wpAnyH_done (by kernel_rfl) ?_ _
  try dsimp only [Whole]
  have hrb := repL_bulk (W := W) (a := a) (n := m) (L := L) (by rw [← Hc.out]; exact ham)
  rw [← Hu.out, ← Hbw.out, ← Hbl.out] at hrb
  obtain ⟨rb, hrb2⟩ : ∃ rb, rb = bulkL (repL W a m L) := ⟨_, rfl⟩
  rw [← hrb2] at hrb
  rw [show bw - u + bl = rb by omega]
  have Hrb := Lib.hid hrb2
  have Hrbu := Lib.hid hrb
  clear hrb2 hws hwt hrb Q1 Q2 Q3
  by_cases hf : 4096 < rb
  · have hfI : (4096 : Int) < (rb : Int) := by omega
    go_wp2_with fail
    go_ret
    exact .inl ⟨by rw [← Hrb.out]; exact hf, rfl, H1.out.drop.drew⟩
  have hfI : ¬ ((4096 : Int) < (rb : Int)) := by omega
  have hjl : (joinL L).length ≤ bl := by rw [Hbl.out]; exact joinL_bulk L
  have Cj := Lib.hid (ljoin Hn.out H1.out.drew Hk.out.cons.cons (by omega) (by have := len_le_bulk L; rw [← Hbl.out] at this; omega))
  obtain ⟨jn, hjn⟩ : ∃ jn, jn = joinL L := ⟨_, rfl⟩
  rw [← hjn] at Cj hjl
  have Hjn := Lib.hid hjn
  clear hjn k0 hS3
  go_wp2_with fail
  refine Cj.out.mono ?_
  rintro e w3 ⟨rfl, h3⟩
  have H3 := Lib.hid h3.drop
  clear h3 Cj
  obtain ⟨t3, x3, T3, hI3, h4⟩ := bE H3.out
  have k0 : w3.cell? ⟨p, 0, none⟩ = some (.pointer (some ⟨t3, 0, none⟩)) := h4.cell (j := 0) rfl
  have k1 : w3.cell? ⟨p, 1, none⟩ = some (.pointer (some ⟨x3, 0, none⟩)) := h4.cell (j := 1) rfl
  have hlf := (noLF_iff W).2 HB.out.lf
  have hbk := brk_join hlf HB.out.ne
  rw [← Hc.out] at hbk
  have hjw := join_len HB.out.ne
  rw [← Hbw.out] at hjw
  have Clen := Lib.hid (ilen h4.p2)
  obtain ⟨tx, htx⟩ : ∃ tx, tx = joinL W := ⟨_, rfl⟩
  rw [← htx] at Clen hjw H3 hbk
  have Htx := Lib.hid htx
  obtain ⟨s0, hs0⟩ : ∃ s0, s0 = bulkL (W.take a) := ⟨_, rfl⟩
  have hs0b : s0 ≤ bw := by rw [hs0, Hbw.out]; exact bulkL_take_le W a
  have Hs0 := Lib.hid hs0
  have Cst := Lib.hid (istart_in (h := a) (by rw [← htx] at h4; exact h4.p2) (by omega))
  rw [show lstart tx a = s0 by rw [htx, hs0]; exact lstart_lines hlf (by rw [← Hc.out]; omega)] at Cst
  obtain ⟨e0, he0⟩ : ∃ e0, e0 = bulkL (W.take d) := ⟨_, rfl⟩
  have hdcl : d < c := by have := Hd.out; have := Hm.out; omega
  have Cend := Lib.hid (istart_in (h := d) (by rw [← htx] at h4; exact h4.p2) (by omega))
  rw [show lstart tx d = e0 by rw [htx, he0]; exact lstart_lines hlf (by rw [← Hc.out]; omega)] at Cend
  have hmid : s0 + u = e0 := by rw [he0, hs0, Hu.out, Hd.out]; exact bulk_mid W a m
  have he0b : e0 < bw := by rw [he0, Hbw.out]; exact bulkL_take_lt (by rw [← Hc.out]; omega)
  have He0 := Lib.hid he0
  have Hmid := Lib.hid hmid
  have hse : s0 ≤ e0 := by omega
  clear he0 hmid
  clear htx hs0 hbk hI3 h4 hlf
  have hjb : jn.length + 1 = bl := by rw [Hjn.out, Hbl.out]; exact join_len HLne.out
  have Hjb := Lib.hid hjb
  have hwe : IntKind.i64.wrap ((e0 : Int) - s0) = ((e0 - s0 : Nat) : Int) := by rw [IntKind.wrap_i64]; omega
  have hcat : ∀ w, (Op.stringOp .add (bs jn) (⟨#[10]⟩ : ByteArray)).run Tryz.prog w = .ok (.string (bs (jn ++ [10]))) w := fun w => run_bs_cat (b := [10]) (by simp; omega) w
  have hdc : ((d : Int) == (c : Int)) = false := beq_eq_false_iff_ne.2 (by omega)
  have cp := bput (s0) (e0 - s0) (jn ++ [10]) (by omega) (by omega) (by have := Hrbu.out; have := Hmid.out; simp only [List.length_append, List.length_cons, List.length_nil]; omega) (by have h1 := Had.out; rw [← Hbl.out] at h1; have h2 := Hjb.out; (try simp only [List.length_cons, List.length_append, List.length_nil]); omega) (by omega) H3.out
  rw [show tx.take (s0) ++ (jn ++ [10]) ++ tx.drop (s0 + (e0 - s0)) = joinL (repL W a m L) by
    rw [show s0 + (e0 - s0) = e0 by omega, show jn ++ [10] = flatL L by rw [Hjn.out]; exact join_flat L HLne.out, Htx.out, Hs0.out, He0.out, Hd.out]
    exact rep_inner (by rw [← Hc.out]; have := Hd.out; omega)] at cp
  have cp : Calls Tryz.prog 33 #[.pointer (some ⟨p, 0, none⟩), .int .i64 s0, .int .i64 (e0 - s0 : Nat), .string (bs (jn ++ [10]))] w3 _ := cp
  have Cp := Lib.hid cp
  clear cp
  clear hjb
  go_wp2_with fail
  refine Cst.out.mono ?_
  rintro e w' ⟨rfl, rfl⟩
  go_wp2_with fail
  refine Cend.out.mono ?_
  rintro e w' ⟨rfl, rfl⟩
  go_wp2_with fail
  refine Cp.out.mono ?_
  rintro e w5 ⟨e5, rfl, h5⟩
  obtain ⟨he5, h5⟩ := h5.pureE
  have H5 := Lib.hid (bufMore (ad' := ad + bl) (by have := Hjb.out; (try simp only [List.length_cons, List.length_append, List.length_nil]); omega) h5)
  clear h5 Cp
  go_wp2_with fail
  go_ret
  refine .inr ⟨by rw [← Hrb.out]; omega, rfl, e5, he5, ?_⟩
  rw [← Hbl.out]
  exact H5.out
set_option maxHeartbeats 4000000 in
theorem brep_in1 {la : Option Addr} {n lc a m : Nat} (hB : BufI W) (hM : MaxInt w0) (ham : a + m ≤ W.length) (hn : n = L.length) (hk : RdL w0 R (.slice la n lc) L) (hbr : brokenB L = false) (hm : 0 < m) (hac : a + m < W.length) (hL : L ≠ [])
    (hb : bulkL L ≤ 80000) (had : ad + bulkL L ≤ 90000) (hed : ed ≤ 10000) (H : Owns w0 w (tbufA p (joinL W) ed ad :: R)) :
    Calls Tryz.prog 13 #[.pointer (some ⟨p, 0, none⟩), .int .i64 a, .int .i64 m, .slice la n lc] w (RepP w0 R p ed ad W a m L) := by
  have C1 := Lib.hid (bcount hB H)
  have c2 := tbroken hn H hk.cons
  rw [hbr] at c2
  have C2 := Lib.hid c2
  have C3 := Lib.hid (blines hB hM H)
  have HB := Lib.hid hB
  have Hn := Lib.hid hn
  have Hk := Lib.hid hk
  have Hb := Lib.hid hb
  have Had := Lib.hid had
  have hcnt := hB.cnt
  obtain ⟨c, hc⟩ : ∃ c, c = W.length := ⟨_, rfl⟩
  rw [← hc] at C1 C3 ham hcnt hac
  have Hc := Lib.hid hc
  have hc0 : 0 < c := by rw [hc]; exact List.length_pos_iff.2 hB.ne
  have hncap : n ≤ lc := SrcV.capLe (by have := hk w H.drop; rw [← hn] at this; exact this)
  have hn0 : 0 < n := by rw [hn]; exact List.length_pos_iff.2 hL
  have hnz : ((n : Int) == 0) = false := beq_eq_false_iff_ne.2 (by omega)
  have hmc : ((m : Int) == (c : Int)) = false := beq_eq_false_iff_ne.2 (by omega)
  have hmz : ((m : Int) == 0) = false := beq_eq_false_iff_ne.2 (by omega)
  have hca : ¬ c = a := by omega
  have HLne := Lib.hid hL
  clear hL

  clear H hB hc hk hn hbr c2 hb hM had
  have hw : IntKind.i64.wrap ((c : Int) - a) = (c : Int) - a := by rw [IntKind.wrap_i64]; omega
  have h3 : ¬ ((c : Int) < a) := by omega
  have h4 : ¬ ((c : Int) - a < m) := by omega
  go_enter Tryz.func13, Tryz.ntmps13
  go_wp2_with fail
  refine C1.out.mono ?_
  rintro e w' ⟨rfl, rfl⟩
  clear C1
  go_wp2_with fail
  refine C2.out.mono ?_
  rintro e w' ⟨rfl, rfl⟩
  clear C2
  go_wp2_with fail
  refine C3.out.mono ?_
  rintro e w1 ⟨b, rfl, h1⟩
  have H1 := Lib.hid (show Owns w0 w1 (row_str (.slice (some ⟨b, 0, none⟩) c c) c (lstrs W) :: tbufA p (joinL W) ed ad :: R) by rw [Hc.out]; exact h1)
  clear h1 C3
  obtain ⟨d, hd⟩ : ∃ d, d = a + m := ⟨_, rfl⟩
  have hwd : IntKind.i64.wrap ((a : Int) + m) = (d : Int) := by rw [IntKind.wrap_i64]; omega
  have had1 : a ≤ d := by omega
  have had2 : d ≤ c := by omega
  have Hd := Lib.hid hd
  clear hd
  go_upto_region 7 with (fail)
  obtain ⟨t, x, T, hI, ht⟩ := bE H1.out.p1.drew
  have k0 : w1.drew.cell? ⟨p, 0, none⟩ = some (.pointer (some ⟨t, 0, none⟩)) := ht.cell (j := 0) rfl
  have Q1 := Lib.hid (bbytes HB.out (H1.out.p1.drew))
  have Q3 := Lib.hid (tsize Hn.out H1.out.drew Hk.out.cons.cons (by have := Hb.out; omega))
  clear hI ht
  obtain ⟨u, hu⟩ : ∃ u, u = bulkL ((W.drop a).take m) := ⟨_, rfl⟩
  have hlen2 : ((W.drop a).take m).length = d - a := by rw [List.length_take, List.length_drop, ← Hc.out, Hd.out]; omega
  have hrd : RdL w0 (row_str (.slice (some ⟨b, 0, none⟩) c c) c (lstrs W) :: tbufA p (joinL W) ed ad :: R) (.slice (some ⟨b, a, none⟩) (d - a) (c - a)) ((W.drop a).take m) := by
    have h := Reads.mid (Reads.row (w0 := w0) (e := 9) (k := 1) (v := .slice (some ⟨b, 0, none⟩) c c) (n := c) (xs := lstrs W) (R := row_str (.slice (some ⟨b, 0, none⟩) c c) c (lstrs W) :: tbufA p (joinL W) ed ad :: R) List.mem_cons_self) (q := a) (r := d - a) (by omega) hca
    unfold RdL
    rw [hlen2]
    have e2 : (((lstrs W).drop a).take (d - a)) = lstrs ((W.drop a).take m) := by
      rw [show d - a = m by have := Hd.out; omega]
      simp [lstrs, strs, List.map_take, List.map_drop]
    rw [e2] at h
    have e1 : Option.map (fun x : Addr => x.add a) (some ⟨b, 0, none⟩) = some ⟨b, a, none⟩ := by simp [Addr.add_lit]
    rw [e1] at h
    exact h
  have hub : u ≤ bulkL W := by
    have h1 := bulkL_append (W.take a) (W.drop a)
    have h2 := bulkL_append ((W.drop a).take m) ((W.drop a).drop m)
    rw [List.take_append_drop] at h1 h2
    omega
  have q2 := tsize hlen2.symm H1.out.drew hrd (by have := HB.out.bulk; omega)
  rw [← hu] at q2
  have Q2 := Lib.hid q2
  obtain ⟨bw, hbw⟩ : ∃ bw, bw = bulkL W := ⟨_, rfl⟩
  obtain ⟨bl, hbl⟩ : ∃ bl, bl = bulkL L := ⟨_, rfl⟩
  rw [← hbw] at Q1 hub
  rw [← hbl] at Q3
  have hbw2 : bw ≤ 4096 := by rw [hbw]; exact HB.out.bulk
  have hbl2 : bl ≤ 80000 := by rw [hbl]; exact Hb.out
  have hws : IntKind.i64.wrap ((bw : Int) - u) = ((bw - u : Nat) : Int) := by rw [IntKind.wrap_i64]; omega
  have hwt : IntKind.i64.wrap (((bw - u : Nat) : Int) + bl) = ((bw - u + bl : Nat) : Int) := by rw [IntKind.wrap_i64]; omega
  have Hu := Lib.hid hu
  have Hbw := Lib.hid hbw
  have Hbl := Lib.hid hbl
  clear hu hbw hbl q2 hrd hlen2
  refine wp_region_held_drew (S := (fun w' => w'.cell? ⟨p, 0, none⟩ = some (.pointer (some ⟨t, 0, none⟩)))) (by kernel_rfl) (k0) (fun hS0 => ?_)
  refine wpAnyH_take (i := 0) (oi := _) (v := .pointer (some ⟨p, 0, none⟩)) rfl (by kernel_rfl) (by kernel_rfl) (by kernel_rfl) (fun _ _ _ h => h) (Or.inl ⟨by rfl, fun w hSw => ?_⟩) hS0 ?_
  · have x0 := hSw; go_simp
  try simp only [Act.put, List.setIfInBounds_toArray, List.set_cons_zero, List.set_cons_succ, List.getElem_toArray, List.getElem_cons_zero, List.getElem_cons_succ]
  refine wpAnyH_take (i := 2) (oi := _) (v := .slice (some ⟨b, 0, none⟩) c c) rfl (by kernel_rfl) (by kernel_rfl) (by kernel_rfl) (fun _ _ _ h => h) (Or.inl ⟨by rfl, fun w hSw => ?_⟩) hS0 ?_
  · have x0 := hSw; go_simp
  try simp only [Act.put, List.setIfInBounds_toArray, List.set_cons_zero, List.set_cons_succ, List.getElem_toArray, List.getElem_cons_zero, List.getElem_cons_succ]
  refine wpAnyH_take (i := 3) (oi := _) (v := .int .i64 a) rfl (by kernel_rfl) (by kernel_rfl) (by kernel_rfl) (fun _ _ _ h => h) (Or.inl ⟨by rfl, fun w hSw => ?_⟩) hS0 ?_
  · have x0 := hSw; go_simp
  try simp only [Act.put, List.setIfInBounds_toArray, List.set_cons_zero, List.set_cons_succ, List.getElem_toArray, List.getElem_cons_zero, List.getElem_cons_succ]
  refine wpAnyH_take (i := 4) (oi := _) (v := .int .i64 a) rfl (by kernel_rfl) (by kernel_rfl) (by kernel_rfl) (fun _ _ _ h => h) (Or.inl ⟨by rfl, fun w hSw => ?_⟩) hS0 ?_
  · have x0 := hSw; go_simp
  try simp only [Act.put, List.setIfInBounds_toArray, List.set_cons_zero, List.set_cons_succ, List.getElem_toArray, List.getElem_cons_zero, List.getElem_cons_succ]
  refine wpAnyH_take (i := 5) (oi := _) (v := .int .i64 m) rfl (by kernel_rfl) (by kernel_rfl) (by kernel_rfl) (fun _ _ _ h => h) (Or.inl ⟨by rfl, fun w hSw => ?_⟩) hS0 ?_
  · have x0 := hSw; go_simp
  try simp only [Act.put, List.setIfInBounds_toArray, List.set_cons_zero, List.set_cons_succ, List.getElem_toArray, List.getElem_cons_zero, List.getElem_cons_succ]
  refine wpAnyH_take (i := 6) (oi := _) (v := .int .i64 d) rfl (by kernel_rfl) (by kernel_rfl) (by kernel_rfl) (fun _ _ _ h => h) (Or.inl ⟨by rfl, fun w hSw => ?_⟩) hS0 ?_
  · have x0 := hSw; go_simp
  try simp only [Act.put, List.setIfInBounds_toArray, List.set_cons_zero, List.set_cons_succ, List.getElem_toArray, List.getElem_cons_zero, List.getElem_cons_succ]
  refine wpAnyH_take (i := 7) (oi := _) (v := .slice (some ⟨b, a, none⟩) (d - a) (c - a)) rfl (by kernel_rfl) (by kernel_rfl) (by kernel_rfl) (fun _ _ _ h => h) (Or.inl ⟨by rfl, fun w hSw => ?_⟩) hS0 ?_
  · have x0 := hSw; go_simp
  try simp only [Act.put, List.setIfInBounds_toArray, List.set_cons_zero, List.set_cons_succ, List.getElem_toArray, List.getElem_cons_zero, List.getElem_cons_succ]
  refine wpAnyH_take (i := 10) (oi := _) (v := .slice la n lc) rfl (by kernel_rfl) (by kernel_rfl) (by kernel_rfl) (fun _ _ _ h => h) (Or.inl ⟨by rfl, fun w hSw => ?_⟩) hS0 ?_
  · have x0 := hSw; go_simp
  try simp only [Act.put, List.setIfInBounds_toArray, List.set_cons_zero, List.set_cons_succ, List.getElem_toArray, List.getElem_cons_zero, List.getElem_cons_succ]
  refine wpAnyH_ready (rs := [1]) (by kernel_rfl) (by simp) (AllReadyH.cons (o := _) rfl (fun K' hK => ?_) AllReadyH.nil)
  simp only [List.getElem_toArray, List.getElem_cons_zero, List.getElem_cons_succ]
  rw [if_pos (by rfl)]
  go_simp
  refine Q1.out.mono ?_
  rintro e w2 ⟨rfl, rfl⟩
  refine hK.out _ _ (k0) (fun hS1 => ?_)
  clear hK K' hS0
  try simp only [Act.put, List.setIfInBounds_toArray, List.set_cons_zero, List.set_cons_succ, List.getElem_toArray, List.getElem_cons_zero, List.getElem_cons_succ]
  refine wpAnyH_ready (rs := [8]) (by kernel_rfl) (by simp) (AllReadyH.cons (o := _) rfl (fun K' hK => ?_) AllReadyH.nil)
  simp only [List.getElem_toArray, List.getElem_cons_zero, List.getElem_cons_succ]
  rw [if_pos (by rfl)]
  go_simp
  refine Q2.out.mono ?_
  rintro e w2 ⟨rfl, rfl⟩
  refine hK.out _ _ (k0) (fun hS2 => ?_)
  clear hK K' hS1
  try simp only [Act.put, List.setIfInBounds_toArray, List.set_cons_zero, List.set_cons_succ, List.getElem_toArray, List.getElem_cons_zero, List.getElem_cons_succ]
  refine wpAnyH_take (i := 9) (oi := _) (v := .int .i64 (bw - u : Nat)) rfl (by kernel_rfl) (by kernel_rfl) (by kernel_rfl) (fun _ _ _ h => h) (Or.inl ⟨by rfl, fun w hSw => ?_⟩) hS2 ?_
  · have x0 := hSw; go_simp
  try simp only [Act.put, List.setIfInBounds_toArray, List.set_cons_zero, List.set_cons_succ, List.getElem_toArray, List.getElem_cons_zero, List.getElem_cons_succ]
  refine wpAnyH_ready (rs := [11]) (by kernel_rfl) (by simp) (AllReadyH.cons (o := _) rfl (fun K' hK => ?_) AllReadyH.nil)
  simp only [List.getElem_toArray, List.getElem_cons_zero, List.getElem_cons_succ]
  rw [if_pos (by rfl)]
  go_simp
  refine Q3.out.mono ?_
  rintro e w2 ⟨rfl, rfl⟩
  refine hK.out _ _ (k0) (fun hS3 => ?_)
  clear hK K' hS2
  try simp only [Act.put, List.setIfInBounds_toArray, List.set_cons_zero, List.set_cons_succ, List.getElem_toArray, List.getElem_cons_zero, List.getElem_cons_succ]
  refine wpAnyH_take (i := 12) (oi := _) (v := .int .i64 (bw - u + bl : Nat)) rfl (by kernel_rfl) (by kernel_rfl) (by kernel_rfl) (fun _ _ _ h => h) (Or.inl ⟨by rfl, fun w hSw => ?_⟩) hS3 ?_
  · have x0 := hSw; go_simp
  try simp only [Act.put, List.setIfInBounds_toArray, List.set_cons_zero, List.set_cons_succ, List.getElem_toArray, List.getElem_cons_zero, List.getElem_cons_succ]
  refine wpAnyH_take (i := 13) (oi := _) (v := .bool (decide ((4096 : Int) < (bw - u + bl : Nat)))) rfl (by kernel_rfl) (by kernel_rfl) (by kernel_rfl) (fun _ _ _ h => h) (Or.inl ⟨by rfl, fun w hSw => ?_⟩) hS3 ?_
  · have x0 := hSw; go_simp
  try simp only [Act.put, List.setIfInBounds_toArray, List.set_cons_zero, List.set_cons_succ, List.getElem_toArray, List.getElem_cons_zero, List.getElem_cons_succ]
  refine wpAnyH_done (by kernel_rfl) ?_ _
  try dsimp only [Whole]
  have hrb := repL_bulk (W := W) (a := a) (n := m) (L := L) (by rw [← Hc.out]; exact ham)
  rw [← Hu.out, ← Hbw.out, ← Hbl.out] at hrb
  obtain ⟨rb, hrb2⟩ : ∃ rb, rb = bulkL (repL W a m L) := ⟨_, rfl⟩
  rw [← hrb2] at hrb
  rw [show bw - u + bl = rb by omega]
  have Hrb := Lib.hid hrb2
  have Hrbu := Lib.hid hrb
  clear hrb2 hws hwt hrb Q1 Q2 Q3
  by_cases hf : 4096 < rb
  · have hfI : (4096 : Int) < (rb : Int) := by omega
    go_wp2_with fail
    go_ret
    exact .inl ⟨by rw [← Hrb.out]; exact hf, rfl, H1.out.drop.drew⟩
  have hfI : ¬ ((4096 : Int) < (rb : Int)) := by omega
  have hjl : (joinL L).length ≤ bl := by rw [Hbl.out]; exact joinL_bulk L
  have Cj := Lib.hid (ljoin Hn.out H1.out.drew Hk.out.cons.cons (by omega) (by have := len_le_bulk L; rw [← Hbl.out] at this; omega))
  obtain ⟨jn, hjn⟩ : ∃ jn, jn = joinL L := ⟨_, rfl⟩
  rw [← hjn] at Cj hjl
  have Hjn := Lib.hid hjn
  clear hjn k0 hS3
  go_wp2_with fail
  refine Cj.out.mono ?_
  rintro e w3 ⟨rfl, h3⟩
  have H3 := Lib.hid h3.drop
  clear h3 Cj
  obtain ⟨t3, x3, T3, hI3, h4⟩ := bE H3.out
  have k0 : w3.cell? ⟨p, 0, none⟩ = some (.pointer (some ⟨t3, 0, none⟩)) := h4.cell (j := 0) rfl
  have k1 : w3.cell? ⟨p, 1, none⟩ = some (.pointer (some ⟨x3, 0, none⟩)) := h4.cell (j := 1) rfl
  have hlf := (noLF_iff W).2 HB.out.lf
  have hbk := brk_join hlf HB.out.ne
  rw [← Hc.out] at hbk
  have hjw := join_len HB.out.ne
  rw [← Hbw.out] at hjw
  have Clen := Lib.hid (ilen h4.p2)
  obtain ⟨tx, htx⟩ : ∃ tx, tx = joinL W := ⟨_, rfl⟩
  rw [← htx] at Clen hjw H3 hbk
  have Htx := Lib.hid htx
  obtain ⟨s0, hs0⟩ : ∃ s0, s0 = bulkL (W.take a) := ⟨_, rfl⟩
  have hs0b : s0 ≤ bw := by rw [hs0, Hbw.out]; exact bulkL_take_le W a
  have Hs0 := Lib.hid hs0
  have Cst := Lib.hid (istart_in (h := a) (by rw [← htx] at h4; exact h4.p2) (by omega))
  rw [show lstart tx a = s0 by rw [htx, hs0]; exact lstart_lines hlf (by rw [← Hc.out]; omega)] at Cst
  obtain ⟨e0, he0⟩ : ∃ e0, e0 = bulkL (W.take d) := ⟨_, rfl⟩
  have hdcl : d < c := by have := Hd.out; omega
  have Cend := Lib.hid (istart_in (h := d) (by rw [← htx] at h4; exact h4.p2) (by omega))
  rw [show lstart tx d = e0 by rw [htx, he0]; exact lstart_lines hlf (by rw [← Hc.out]; omega)] at Cend
  have hmid : s0 + u = e0 := by rw [he0, hs0, Hu.out, Hd.out]; exact bulk_mid W a m
  have he0b : e0 < bw := by rw [he0, Hbw.out]; exact bulkL_take_lt (by rw [← Hc.out]; omega)
  have He0 := Lib.hid he0
  have Hmid := Lib.hid hmid
  have hse : s0 ≤ e0 := by omega
  clear he0 hmid
  clear htx hs0 hbk hI3 h4 hlf
  have hjb : jn.length + 1 = bl := by rw [Hjn.out, Hbl.out]; exact join_len HLne.out
  have Hjb := Lib.hid hjb
  have hwe : IntKind.i64.wrap ((e0 : Int) - s0) = ((e0 - s0 : Nat) : Int) := by rw [IntKind.wrap_i64]; omega
  have hcat : ∀ w, (Op.stringOp .add (bs jn) (⟨#[10]⟩ : ByteArray)).run Tryz.prog w = .ok (.string (bs (jn ++ [10]))) w := fun w => run_bs_cat (b := [10]) (by simp; omega) w
  have hdc : ((d : Int) == (c : Int)) = false := beq_eq_false_iff_ne.2 (by omega)
  have cp := bput (s0) (e0 - s0) (jn ++ [10]) (by omega) (by omega) (by have := Hrbu.out; have := Hmid.out; simp only [List.length_append, List.length_cons, List.length_nil]; omega) (by have h1 := Had.out; rw [← Hbl.out] at h1; have h2 := Hjb.out; (try simp only [List.length_cons, List.length_append, List.length_nil]); omega) (by omega) H3.out
  rw [show tx.take (s0) ++ (jn ++ [10]) ++ tx.drop (s0 + (e0 - s0)) = joinL (repL W a m L) by
    rw [show s0 + (e0 - s0) = e0 by omega, show jn ++ [10] = flatL L by rw [Hjn.out]; exact join_flat L HLne.out, Htx.out, Hs0.out, He0.out, Hd.out]
    exact rep_inner (by rw [← Hc.out]; have := Hd.out; omega)] at cp
  have cp : Calls Tryz.prog 33 #[.pointer (some ⟨p, 0, none⟩), .int .i64 s0, .int .i64 (e0 - s0 : Nat), .string (bs (jn ++ [10]))] w3 _ := cp
  have Cp := Lib.hid cp
  clear cp
  clear hjb
  go_wp2_with fail
  refine Cst.out.mono ?_
  rintro e w' ⟨rfl, rfl⟩
  go_wp2_with fail
  refine Cend.out.mono ?_
  rintro e w' ⟨rfl, rfl⟩
  go_wp2_with fail
  refine Cp.out.mono ?_
  rintro e w5 ⟨e5, rfl, h5⟩
  obtain ⟨he5, h5⟩ := h5.pureE
  have H5 := Lib.hid (bufMore (ad' := ad + bl) (by have := Hjb.out; (try simp only [List.length_cons, List.length_append, List.length_nil]); omega) h5)
  clear h5 Cp
  go_wp2_with fail
  go_ret
  refine .inr ⟨by rw [← Hrb.out]; omega, rfl, e5, he5, ?_⟩
  rw [← Hbl.out]
  exact H5.out
set_option maxHeartbeats 4000000 in
theorem brep_inx {la : Option Addr} {n lc a m : Nat} (hB : BufI W) (hM : MaxInt w0) (ham : a + m ≤ W.length) (hn : n = L.length) (hk : RdL w0 R (.slice la n lc) L) (hbr : brokenB L = false) (hm : 0 < m) (hac : a + m < W.length) (hL : L = [])
    (hb : bulkL L ≤ 80000) (had : ad + bulkL L ≤ 90000) (hed : ed ≤ 10000) (H : Owns w0 w (tbufA p (joinL W) ed ad :: R)) :
    Calls Tryz.prog 13 #[.pointer (some ⟨p, 0, none⟩), .int .i64 a, .int .i64 m, .slice la n lc] w (RepP w0 R p ed ad W a m L) := by
  have C1 := Lib.hid (bcount hB H)
  have c2 := tbroken hn H hk.cons
  rw [hbr] at c2
  have C2 := Lib.hid c2
  have C3 := Lib.hid (blines hB hM H)
  have HB := Lib.hid hB
  have Hn := Lib.hid hn
  have Hk := Lib.hid hk
  have Hb := Lib.hid hb
  have Had := Lib.hid had
  have hcnt := hB.cnt
  obtain ⟨c, hc⟩ : ∃ c, c = W.length := ⟨_, rfl⟩
  rw [← hc] at C1 C3 ham hcnt hac
  have Hc := Lib.hid hc
  have hc0 : 0 < c := by rw [hc]; exact List.length_pos_iff.2 hB.ne
  have hncap : n ≤ lc := SrcV.capLe (by have := hk w H.drop; rw [← hn] at this; exact this)
  have hn0 : n = 0 := by rw [hn, hL]; rfl
  have hnz : ((n : Int) == 0) = true := by rw [show n = 0 by omega]; rfl
  have Hn0 := Lib.hid hn0
  clear hn0
  have hmc : ((m : Int) == (c : Int)) = false := beq_eq_false_iff_ne.2 (by omega)
  have hmz : ((m : Int) == 0) = false := beq_eq_false_iff_ne.2 (by omega)
  have hca : ¬ c = a := by omega
  have HLn := Lib.hid hL
  clear hL

  clear H hB hc hk hn hbr c2 hb hM had
  have hw : IntKind.i64.wrap ((c : Int) - a) = (c : Int) - a := by rw [IntKind.wrap_i64]; omega
  have h3 : ¬ ((c : Int) < a) := by omega
  have h4 : ¬ ((c : Int) - a < m) := by omega
  go_enter Tryz.func13, Tryz.ntmps13
  go_wp2_with fail
  refine C1.out.mono ?_
  rintro e w' ⟨rfl, rfl⟩
  clear C1
  go_wp2_with fail
  refine C2.out.mono ?_
  rintro e w' ⟨rfl, rfl⟩
  clear C2
  go_wp2_with fail
  refine C3.out.mono ?_
  rintro e w1 ⟨b, rfl, h1⟩
  have H1 := Lib.hid (show Owns w0 w1 (row_str (.slice (some ⟨b, 0, none⟩) c c) c (lstrs W) :: tbufA p (joinL W) ed ad :: R) by rw [Hc.out]; exact h1)
  clear h1 C3
  obtain ⟨d, hd⟩ : ∃ d, d = a + m := ⟨_, rfl⟩
  have hwd : IntKind.i64.wrap ((a : Int) + m) = (d : Int) := by rw [IntKind.wrap_i64]; omega
  have had1 : a ≤ d := by omega
  have had2 : d ≤ c := by omega
  have Hd := Lib.hid hd
  clear hd
  go_upto_region 7 with (fail)
  obtain ⟨t, x, T, hI, ht⟩ := bE H1.out.p1.drew
  have k0 : w1.drew.cell? ⟨p, 0, none⟩ = some (.pointer (some ⟨t, 0, none⟩)) := ht.cell (j := 0) rfl
  have Q1 := Lib.hid (bbytes HB.out (H1.out.p1.drew))
  have Q3 := Lib.hid (tsize Hn.out H1.out.drew Hk.out.cons.cons (by have := Hb.out; omega))
  clear hI ht
  obtain ⟨u, hu⟩ : ∃ u, u = bulkL ((W.drop a).take m) := ⟨_, rfl⟩
  have hlen2 : ((W.drop a).take m).length = d - a := by rw [List.length_take, List.length_drop, ← Hc.out, Hd.out]; omega
  have hrd : RdL w0 (row_str (.slice (some ⟨b, 0, none⟩) c c) c (lstrs W) :: tbufA p (joinL W) ed ad :: R) (.slice (some ⟨b, a, none⟩) (d - a) (c - a)) ((W.drop a).take m) := by
    have h := Reads.mid (Reads.row (w0 := w0) (e := 9) (k := 1) (v := .slice (some ⟨b, 0, none⟩) c c) (n := c) (xs := lstrs W) (R := row_str (.slice (some ⟨b, 0, none⟩) c c) c (lstrs W) :: tbufA p (joinL W) ed ad :: R) List.mem_cons_self) (q := a) (r := d - a) (by omega) hca
    unfold RdL
    rw [hlen2]
    have e2 : (((lstrs W).drop a).take (d - a)) = lstrs ((W.drop a).take m) := by
      rw [show d - a = m by have := Hd.out; omega]
      simp [lstrs, strs, List.map_take, List.map_drop]
    rw [e2] at h
    have e1 : Option.map (fun x : Addr => x.add a) (some ⟨b, 0, none⟩) = some ⟨b, a, none⟩ := by simp [Addr.add_lit]
    rw [e1] at h
    exact h
  have hub : u ≤ bulkL W := by
    have h1 := bulkL_append (W.take a) (W.drop a)
    have h2 := bulkL_append ((W.drop a).take m) ((W.drop a).drop m)
    rw [List.take_append_drop] at h1 h2
    omega
  have q2 := tsize hlen2.symm H1.out.drew hrd (by have := HB.out.bulk; omega)
  rw [← hu] at q2
  have Q2 := Lib.hid q2
  obtain ⟨bw, hbw⟩ : ∃ bw, bw = bulkL W := ⟨_, rfl⟩
  obtain ⟨bl, hbl⟩ : ∃ bl, bl = bulkL L := ⟨_, rfl⟩
  rw [← hbw] at Q1 hub
  rw [← hbl] at Q3
  have hbw2 : bw ≤ 4096 := by rw [hbw]; exact HB.out.bulk
  have hbl2 : bl ≤ 80000 := by rw [hbl]; exact Hb.out
  have hws : IntKind.i64.wrap ((bw : Int) - u) = ((bw - u : Nat) : Int) := by rw [IntKind.wrap_i64]; omega
  have hwt : IntKind.i64.wrap (((bw - u : Nat) : Int) + bl) = ((bw - u + bl : Nat) : Int) := by rw [IntKind.wrap_i64]; omega
  have Hu := Lib.hid hu
  have Hbw := Lib.hid hbw
  have Hbl := Lib.hid hbl
  clear hu hbw hbl q2 hrd hlen2
  refine wp_region_held_drew (S := (fun w' => w'.cell? ⟨p, 0, none⟩ = some (.pointer (some ⟨t, 0, none⟩)))) (by kernel_rfl) (k0) (fun hS0 => ?_)
  refine wpAnyH_take (i := 0) (oi := _) (v := .pointer (some ⟨p, 0, none⟩)) rfl (by kernel_rfl) (by kernel_rfl) (by kernel_rfl) (fun _ _ _ h => h) (Or.inl ⟨by rfl, fun w hSw => ?_⟩) hS0 ?_
  · have x0 := hSw; go_simp
  try simp only [Act.put, List.setIfInBounds_toArray, List.set_cons_zero, List.set_cons_succ, List.getElem_toArray, List.getElem_cons_zero, List.getElem_cons_succ]
  refine wpAnyH_take (i := 2) (oi := _) (v := .slice (some ⟨b, 0, none⟩) c c) rfl (by kernel_rfl) (by kernel_rfl) (by kernel_rfl) (fun _ _ _ h => h) (Or.inl ⟨by rfl, fun w hSw => ?_⟩) hS0 ?_
  · have x0 := hSw; go_simp
  try simp only [Act.put, List.setIfInBounds_toArray, List.set_cons_zero, List.set_cons_succ, List.getElem_toArray, List.getElem_cons_zero, List.getElem_cons_succ]
  refine wpAnyH_take (i := 3) (oi := _) (v := .int .i64 a) rfl (by kernel_rfl) (by kernel_rfl) (by kernel_rfl) (fun _ _ _ h => h) (Or.inl ⟨by rfl, fun w hSw => ?_⟩) hS0 ?_
  · have x0 := hSw; go_simp
  try simp only [Act.put, List.setIfInBounds_toArray, List.set_cons_zero, List.set_cons_succ, List.getElem_toArray, List.getElem_cons_zero, List.getElem_cons_succ]
  refine wpAnyH_take (i := 4) (oi := _) (v := .int .i64 a) rfl (by kernel_rfl) (by kernel_rfl) (by kernel_rfl) (fun _ _ _ h => h) (Or.inl ⟨by rfl, fun w hSw => ?_⟩) hS0 ?_
  · have x0 := hSw; go_simp
  try simp only [Act.put, List.setIfInBounds_toArray, List.set_cons_zero, List.set_cons_succ, List.getElem_toArray, List.getElem_cons_zero, List.getElem_cons_succ]
  refine wpAnyH_take (i := 5) (oi := _) (v := .int .i64 m) rfl (by kernel_rfl) (by kernel_rfl) (by kernel_rfl) (fun _ _ _ h => h) (Or.inl ⟨by rfl, fun w hSw => ?_⟩) hS0 ?_
  · have x0 := hSw; go_simp
  try simp only [Act.put, List.setIfInBounds_toArray, List.set_cons_zero, List.set_cons_succ, List.getElem_toArray, List.getElem_cons_zero, List.getElem_cons_succ]
  refine wpAnyH_take (i := 6) (oi := _) (v := .int .i64 d) rfl (by kernel_rfl) (by kernel_rfl) (by kernel_rfl) (fun _ _ _ h => h) (Or.inl ⟨by rfl, fun w hSw => ?_⟩) hS0 ?_
  · have x0 := hSw; go_simp
  try simp only [Act.put, List.setIfInBounds_toArray, List.set_cons_zero, List.set_cons_succ, List.getElem_toArray, List.getElem_cons_zero, List.getElem_cons_succ]
  refine wpAnyH_take (i := 7) (oi := _) (v := .slice (some ⟨b, a, none⟩) (d - a) (c - a)) rfl (by kernel_rfl) (by kernel_rfl) (by kernel_rfl) (fun _ _ _ h => h) (Or.inl ⟨by rfl, fun w hSw => ?_⟩) hS0 ?_
  · have x0 := hSw; go_simp
  try simp only [Act.put, List.setIfInBounds_toArray, List.set_cons_zero, List.set_cons_succ, List.getElem_toArray, List.getElem_cons_zero, List.getElem_cons_succ]
  refine wpAnyH_take (i := 10) (oi := _) (v := .slice la n lc) rfl (by kernel_rfl) (by kernel_rfl) (by kernel_rfl) (fun _ _ _ h => h) (Or.inl ⟨by rfl, fun w hSw => ?_⟩) hS0 ?_
  · have x0 := hSw; go_simp
  try simp only [Act.put, List.setIfInBounds_toArray, List.set_cons_zero, List.set_cons_succ, List.getElem_toArray, List.getElem_cons_zero, List.getElem_cons_succ]
  refine wpAnyH_ready (rs := [1]) (by kernel_rfl) (by simp) (AllReadyH.cons (o := _) rfl (fun K' hK => ?_) AllReadyH.nil)
  simp only [List.getElem_toArray, List.getElem_cons_zero, List.getElem_cons_succ]
  rw [if_pos (by rfl)]
  go_simp
  refine Q1.out.mono ?_
  rintro e w2 ⟨rfl, rfl⟩
  refine hK.out _ _ (k0) (fun hS1 => ?_)
  clear hK K' hS0
  try simp only [Act.put, List.setIfInBounds_toArray, List.set_cons_zero, List.set_cons_succ, List.getElem_toArray, List.getElem_cons_zero, List.getElem_cons_succ]
  refine wpAnyH_ready (rs := [8]) (by kernel_rfl) (by simp) (AllReadyH.cons (o := _) rfl (fun K' hK => ?_) AllReadyH.nil)
  simp only [List.getElem_toArray, List.getElem_cons_zero, List.getElem_cons_succ]
  rw [if_pos (by rfl)]
  go_simp
  refine Q2.out.mono ?_
  rintro e w2 ⟨rfl, rfl⟩
  refine hK.out _ _ (k0) (fun hS2 => ?_)
  clear hK K' hS1
  try simp only [Act.put, List.setIfInBounds_toArray, List.set_cons_zero, List.set_cons_succ, List.getElem_toArray, List.getElem_cons_zero, List.getElem_cons_succ]
  refine wpAnyH_take (i := 9) (oi := _) (v := .int .i64 (bw - u : Nat)) rfl (by kernel_rfl) (by kernel_rfl) (by kernel_rfl) (fun _ _ _ h => h) (Or.inl ⟨by rfl, fun w hSw => ?_⟩) hS2 ?_
  · have x0 := hSw; go_simp
  try simp only [Act.put, List.setIfInBounds_toArray, List.set_cons_zero, List.set_cons_succ, List.getElem_toArray, List.getElem_cons_zero, List.getElem_cons_succ]
  refine wpAnyH_ready (rs := [11]) (by kernel_rfl) (by simp) (AllReadyH.cons (o := _) rfl (fun K' hK => ?_) AllReadyH.nil)
  simp only [List.getElem_toArray, List.getElem_cons_zero, List.getElem_cons_succ]
  rw [if_pos (by rfl)]
  go_simp
  refine Q3.out.mono ?_
  rintro e w2 ⟨rfl, rfl⟩
  refine hK.out _ _ (k0) (fun hS3 => ?_)
  clear hK K' hS2
  try simp only [Act.put, List.setIfInBounds_toArray, List.set_cons_zero, List.set_cons_succ, List.getElem_toArray, List.getElem_cons_zero, List.getElem_cons_succ]
  refine wpAnyH_take (i := 12) (oi := _) (v := .int .i64 (bw - u + bl : Nat)) rfl (by kernel_rfl) (by kernel_rfl) (by kernel_rfl) (fun _ _ _ h => h) (Or.inl ⟨by rfl, fun w hSw => ?_⟩) hS3 ?_
  · have x0 := hSw; go_simp
  try simp only [Act.put, List.setIfInBounds_toArray, List.set_cons_zero, List.set_cons_succ, List.getElem_toArray, List.getElem_cons_zero, List.getElem_cons_succ]
  refine wpAnyH_take (i := 13) (oi := _) (v := .bool (decide ((4096 : Int) < (bw - u + bl : Nat)))) rfl (by kernel_rfl) (by kernel_rfl) (by kernel_rfl) (fun _ _ _ h => h) (Or.inl ⟨by rfl, fun w hSw => ?_⟩) hS3 ?_
  · have x0 := hSw; go_simp
  try simp only [Act.put, List.setIfInBounds_toArray, List.set_cons_zero, List.set_cons_succ, List.getElem_toArray, List.getElem_cons_zero, List.getElem_cons_succ]
  refine wpAnyH_done (by kernel_rfl) ?_ _
  try dsimp only [Whole]
  have hrb := repL_bulk (W := W) (a := a) (n := m) (L := L) (by rw [← Hc.out]; exact ham)
  rw [← Hu.out, ← Hbw.out, ← Hbl.out] at hrb
  obtain ⟨rb, hrb2⟩ : ∃ rb, rb = bulkL (repL W a m L) := ⟨_, rfl⟩
  rw [← hrb2] at hrb
  rw [show bw - u + bl = rb by omega]
  have Hrb := Lib.hid hrb2
  have Hrbu := Lib.hid hrb
  clear hrb2 hws hwt hrb Q1 Q2 Q3
  by_cases hf : 4096 < rb
  · have hfI : (4096 : Int) < (rb : Int) := by omega
    go_wp2_with fail
    go_ret
    exact .inl ⟨by rw [← Hrb.out]; exact hf, rfl, H1.out.drop.drew⟩
  have hfI : ¬ ((4096 : Int) < (rb : Int)) := by omega
  have hjl : (joinL L).length ≤ bl := by rw [Hbl.out]; exact joinL_bulk L
  have Cj := Lib.hid (ljoin Hn.out H1.out.drew Hk.out.cons.cons (by omega) (by have := len_le_bulk L; rw [← Hbl.out] at this; omega))
  obtain ⟨jn, hjn⟩ : ∃ jn, jn = joinL L := ⟨_, rfl⟩
  rw [← hjn] at Cj hjl
  have Hjn := Lib.hid hjn
  clear hjn k0 hS3
  go_wp2_with fail
  refine Cj.out.mono ?_
  rintro e w3 ⟨rfl, h3⟩
  have H3 := Lib.hid h3.drop
  clear h3 Cj
  obtain ⟨t3, x3, T3, hI3, h4⟩ := bE H3.out
  have k0 : w3.cell? ⟨p, 0, none⟩ = some (.pointer (some ⟨t3, 0, none⟩)) := h4.cell (j := 0) rfl
  have k1 : w3.cell? ⟨p, 1, none⟩ = some (.pointer (some ⟨x3, 0, none⟩)) := h4.cell (j := 1) rfl
  have hlf := (noLF_iff W).2 HB.out.lf
  have hbk := brk_join hlf HB.out.ne
  rw [← Hc.out] at hbk
  have hjw := join_len HB.out.ne
  rw [← Hbw.out] at hjw
  have Clen := Lib.hid (ilen h4.p2)
  obtain ⟨tx, htx⟩ : ∃ tx, tx = joinL W := ⟨_, rfl⟩
  rw [← htx] at Clen hjw H3 hbk
  have Htx := Lib.hid htx
  obtain ⟨s0, hs0⟩ : ∃ s0, s0 = bulkL (W.take a) := ⟨_, rfl⟩
  have hs0b : s0 ≤ bw := by rw [hs0, Hbw.out]; exact bulkL_take_le W a
  have Hs0 := Lib.hid hs0
  have Cst := Lib.hid (istart_in (h := a) (by rw [← htx] at h4; exact h4.p2) (by omega))
  rw [show lstart tx a = s0 by rw [htx, hs0]; exact lstart_lines hlf (by rw [← Hc.out]; omega)] at Cst
  obtain ⟨e0, he0⟩ : ∃ e0, e0 = bulkL (W.take d) := ⟨_, rfl⟩
  have hdcl : d < c := by have := Hd.out; omega
  have Cend := Lib.hid (istart_in (h := d) (by rw [← htx] at h4; exact h4.p2) (by omega))
  rw [show lstart tx d = e0 by rw [htx, he0]; exact lstart_lines hlf (by rw [← Hc.out]; omega)] at Cend
  have hmid : s0 + u = e0 := by rw [he0, hs0, Hu.out, Hd.out]; exact bulk_mid W a m
  have he0b : e0 < bw := by rw [he0, Hbw.out]; exact bulkL_take_lt (by rw [← Hc.out]; omega)
  have He0 := Lib.hid he0
  have Hmid := Lib.hid hmid
  have hse : s0 ≤ e0 := by omega
  clear he0 hmid
  clear htx hs0 hbk hI3 h4 hlf
  have hjb : jn.length = 0 ∧ bl = 0 := by rw [Hjn.out, Hbl.out, HLn.out]; exact ⟨rfl, rfl⟩
  have Hjb := Lib.hid hjb
  clear hjb
  have hwe : IntKind.i64.wrap ((e0 : Int) - s0) = ((e0 - s0 : Nat) : Int) := by rw [IntKind.wrap_i64]; omega
  have hdc : ((d : Int) == (c : Int)) = false := beq_eq_false_iff_ne.2 (by omega)
  have hng : ¬ ((0 : Int) < (n : Int)) := by rw [Hn0.out]; decide
  have cp := bput (s0) (e0 - s0) (jn) (by omega) (by omega) (by have := Hrbu.out; have := Hjb.out; omega) (by have h1 := Had.out; rw [← Hbl.out] at h1; have h2 := Hjb.out; (try simp only [List.length_cons, List.length_append, List.length_nil]); omega) (by omega) H3.out
  rw [show tx.take (s0) ++ (jn) ++ tx.drop (s0 + (e0 - s0)) = joinL (repL W a m L) by
    rw [show s0 + (e0 - s0) = e0 by omega, show jn = flatL L by rw [Hjn.out, HLn.out]; rfl, Htx.out, Hs0.out, He0.out, Hd.out]
    exact rep_inner (by rw [← Hc.out]; exact hac)] at cp
  have cp : Calls Tryz.prog 33 #[.pointer (some ⟨p, 0, none⟩), .int .i64 s0, .int .i64 (e0 - s0 : Nat), .string (bs jn)] w3 _ := cp
  have Cp := Lib.hid cp
  clear cp
  go_wp2_with fail
  refine Cst.out.mono ?_
  rintro e w' ⟨rfl, rfl⟩
  go_wp2_with fail
  refine Cend.out.mono ?_
  rintro e w' ⟨rfl, rfl⟩
  go_wp2_with fail
  refine Cp.out.mono ?_
  rintro e w5 ⟨e5, rfl, h5⟩
  obtain ⟨he5, h5⟩ := h5.pureE
  have H5 := Lib.hid (bufMore (ad' := ad + bl) (by have := Hjb.out; (try simp only [List.length_cons, List.length_append, List.length_nil]); omega) h5)
  clear h5 Cp
  go_wp2_with fail
  go_ret
  refine .inr ⟨by rw [← Hrb.out]; omega, rfl, e5, he5, ?_⟩
  rw [← Hbl.out]
  exact H5.out
set_option maxHeartbeats 4000000 in
theorem brep_nil {la : Option Addr} {n lc a m : Nat} (hB : BufI W) (hM : MaxInt w0) (ham : a + m ≤ W.length) (hn : n = L.length) (hk : RdL w0 R (.slice la n lc) L) (hbr : brokenB L = false) (hm : m = W.length) (hL : L = [])
    (hb : bulkL L ≤ 80000) (had : ad + 1 ≤ 90000) (hed : ed ≤ 10000) (H : Owns w0 w (tbufA p (joinL W) ed ad :: R)) :
    Calls Tryz.prog 13 #[.pointer (some ⟨p, 0, none⟩), .int .i64 a, .int .i64 m, .slice la n lc] w (RepP w0 R p ed ad W a m [[]]) := by
  have C1 := Lib.hid (bcount hB H)
  have c2 := tbroken hn H hk.cons
  rw [hbr] at c2
  have C2 := Lib.hid c2
  have C3 := Lib.hid (blines hB hM H)
  have HB := Lib.hid hB
  have Hn := Lib.hid hn
  have Hk := Lib.hid hk
  have Hb := Lib.hid hb
  have Had := Lib.hid had
  have hcnt := hB.cnt
  obtain ⟨c, hc⟩ : ∃ c, c = W.length := ⟨_, rfl⟩
  rw [← hc] at C1 C3 ham hcnt hm
  have Hc := Lib.hid hc
  have hc0 : 0 < c := by rw [hc]; exact List.length_pos_iff.2 hB.ne
  have hncap : n ≤ lc := SrcV.capLe (by have := hk w H.drop; rw [← hn] at this; exact this)
  have hn0 : n = 0 := by rw [hn, hL]; rfl
  have hnz : ((n : Int) == 0) = true := by rw [show n = 0 by omega]; rfl
  obtain rfl : c = m := hm.symm
  have hca : ¬ c = a := by omega
  clear hn0 hL
  clear H hB hc hk hn hbr c2 hb hM had
  have hw : IntKind.i64.wrap ((c : Int) - a) = (c : Int) - a := by rw [IntKind.wrap_i64]; omega
  have h3 : ¬ ((c : Int) < a) := by omega
  have h4 : ¬ ((c : Int) - a < c) := by omega
  go_enter Tryz.func13, Tryz.ntmps13
  go_wp2_with fail
  refine C1.out.mono ?_
  rintro e w' ⟨rfl, rfl⟩
  clear C1
  go_wp2_with fail
  refine C2.out.mono ?_
  rintro e w' ⟨rfl, rfl⟩
  clear C2
  go_wp2_with fail
  refine C3.out.mono ?_
  rintro e w1 ⟨b, rfl, h1⟩
  have H1 := Lib.hid (show Owns w0 w1 (row_str (.slice (some ⟨b, 0, none⟩) c c) c (lstrs W) :: tbufA p (joinL W) ed ad :: R) by rw [Hc.out]; exact h1)
  clear h1 C3
  obtain ⟨d, hd⟩ : ∃ d, d = a + c := ⟨_, rfl⟩
  have hwd : IntKind.i64.wrap ((a : Int) + c) = (d : Int) := by rw [IntKind.wrap_i64]; omega
  have had1 : a ≤ d := by omega
  have had2 : d ≤ c := by omega
  have Hd := Lib.hid hd
  clear hd
  have hH2 := (H1.out.alloc #[.string ⟨#[]⟩] 9).ord [1, 1]
  obtain ⟨W1, hW1⟩ : ∃ W1, W1 = w1.alloc (.cells #[.string ⟨#[]⟩] 9) := ⟨_, rfl⟩
  obtain ⟨B, hB1⟩ : ∃ B, B = w1.heap.size := ⟨_, rfl⟩
  rw [← hW1, ← hB1] at hH2
  obtain ⟨R2, hR2⟩ : ∃ R2, R2 = Asrt.obj B (.cells #[.string ⟨#[]⟩] 9 (0, 0)) :: R := ⟨_, rfl⟩
  have hH2 : Owns w0 W1 (row_str (.slice (some ⟨b, 0, none⟩) c c) c (lstrs W) :: tbufA p (joinL W) ed ad :: R2) := by rw [hR2]; exact hH2
  obtain ⟨L2, hL2⟩ : ∃ L2 : Ls, L2 = [[]] := ⟨_, rfl⟩
  have hk2 : RdL w0 R2 (.slice (some ⟨B, 0, none⟩) 1 1) L2 := by rw [hR2, hL2]; exact Reads.obj (k := 1) (n := 1) (c := 1) List.mem_cons_self (by decide) (by decide) (by simp)
  have HW1 := Lib.hid hW1
  have HB1 := Lib.hid hB1
  have HR2 := Lib.hid hR2
  have HL2 := Lib.hid hL2
  have Hk2 := Lib.hid hk2
  have Hn2 := Lib.hid (show 1 = L2.length by rw [hL2]; rfl)
  have Hb2 := Lib.hid (show bulkL L2 ≤ 80000 by rw [hL2]; decide)
  have Had2 := Lib.hid (show ad + bulkL L2 ≤ 90000 by rw [hL2]; exact Had.out)
  have HLne := Lib.hid (show L2 ≠ [] by rw [hL2]; simp)
  have H1b := Lib.hid hH2
  clear hW1 hB1 hR2 hL2 hk2 hH2
  go_upto_region 7 with (fail)
  rw [← HW1.out, ← HB1.out]
  obtain ⟨t, x, T, hI, ht⟩ := bE H1b.out.p1.drew
  have k0 : W1.drew.cell? ⟨p, 0, none⟩ = some (.pointer (some ⟨t, 0, none⟩)) := ht.cell (j := 0) rfl
  have Q1 := Lib.hid (bbytes HB.out (H1b.out.p1.drew))
  have Q3 := Lib.hid (tsize Hn2.out H1b.out.drew Hk2.out.cons.cons (by have := Hb2.out; omega))
  clear hI ht
  obtain ⟨u, hu⟩ : ∃ u, u = bulkL ((W.drop a).take c) := ⟨_, rfl⟩
  have hlen2 : ((W.drop a).take c).length = d - a := by rw [List.length_take, List.length_drop, ← Hc.out, Hd.out]; omega
  have hrd : RdL w0 (row_str (.slice (some ⟨b, 0, none⟩) c c) c (lstrs W) :: tbufA p (joinL W) ed ad :: R2) (.slice (some ⟨b, a, none⟩) (d - a) (c - a)) ((W.drop a).take c) := by
    have h := Reads.mid (Reads.row (w0 := w0) (e := 9) (k := 1) (v := .slice (some ⟨b, 0, none⟩) c c) (n := c) (xs := lstrs W) (R := row_str (.slice (some ⟨b, 0, none⟩) c c) c (lstrs W) :: tbufA p (joinL W) ed ad :: R2) List.mem_cons_self) (q := a) (r := d - a) (by omega) hca
    unfold RdL
    rw [hlen2]
    have e2 : (((lstrs W).drop a).take (d - a)) = lstrs ((W.drop a).take c) := by
      rw [show d - a = c by have := Hd.out; omega]
      simp [lstrs, strs, List.map_take, List.map_drop]
    rw [e2] at h
    have e1 : Option.map (fun x : Addr => x.add a) (some ⟨b, 0, none⟩) = some ⟨b, a, none⟩ := by simp [Addr.add_lit]
    rw [e1] at h
    exact h
  have hub : u ≤ bulkL W := by
    have h1 := bulkL_append (W.take a) (W.drop a)
    have h2 := bulkL_append ((W.drop a).take c) ((W.drop a).drop c)
    rw [List.take_append_drop] at h1 h2
    omega
  have q2 := tsize hlen2.symm H1b.out.drew hrd (by have := HB.out.bulk; omega)
  rw [← hu] at q2
  have Q2 := Lib.hid q2
  obtain ⟨bw, hbw⟩ : ∃ bw, bw = bulkL W := ⟨_, rfl⟩
  obtain ⟨bl, hbl⟩ : ∃ bl, bl = bulkL L2 := ⟨_, rfl⟩
  rw [← hbw] at Q1 hub
  rw [← hbl] at Q3
  have hbw2 : bw ≤ 4096 := by rw [hbw]; exact HB.out.bulk
  have hbl2 : bl ≤ 80000 := by rw [hbl]; exact Hb2.out
  have hws : IntKind.i64.wrap ((bw : Int) - u) = ((bw - u : Nat) : Int) := by rw [IntKind.wrap_i64]; omega
  have hwt : IntKind.i64.wrap (((bw - u : Nat) : Int) + bl) = ((bw - u + bl : Nat) : Int) := by rw [IntKind.wrap_i64]; omega
  have Hu := Lib.hid hu
  have Hbw := Lib.hid hbw
  have Hbl := Lib.hid hbl
  clear hu hbw hbl q2 hrd hlen2
  refine wp_region_held_drew (S := (fun w' => w'.cell? ⟨p, 0, none⟩ = some (.pointer (some ⟨t, 0, none⟩)))) (by kernel_rfl) (k0) (fun hS0 => ?_)
  refine wpAnyH_take (i := 0) (oi := _) (v := .pointer (some ⟨p, 0, none⟩)) rfl (by kernel_rfl) (by kernel_rfl) (by kernel_rfl) (fun _ _ _ h => h) (Or.inl ⟨by rfl, fun w hSw => ?_⟩) hS0 ?_
  · have x0 := hSw; go_simp
  try simp only [Act.put, List.setIfInBounds_toArray, List.set_cons_zero, List.set_cons_succ, List.getElem_toArray, List.getElem_cons_zero, List.getElem_cons_succ]
  refine wpAnyH_take (i := 2) (oi := _) (v := .slice (some ⟨b, 0, none⟩) c c) rfl (by kernel_rfl) (by kernel_rfl) (by kernel_rfl) (fun _ _ _ h => h) (Or.inl ⟨by rfl, fun w hSw => ?_⟩) hS0 ?_
  · have x0 := hSw; go_simp
  try simp only [Act.put, List.setIfInBounds_toArray, List.set_cons_zero, List.set_cons_succ, List.getElem_toArray, List.getElem_cons_zero, List.getElem_cons_succ]
  refine wpAnyH_take (i := 3) (oi := _) (v := .int .i64 a) rfl (by kernel_rfl) (by kernel_rfl) (by kernel_rfl) (fun _ _ _ h => h) (Or.inl ⟨by rfl, fun w hSw => ?_⟩) hS0 ?_
  · have x0 := hSw; go_simp
  try simp only [Act.put, List.setIfInBounds_toArray, List.set_cons_zero, List.set_cons_succ, List.getElem_toArray, List.getElem_cons_zero, List.getElem_cons_succ]
  refine wpAnyH_take (i := 4) (oi := _) (v := .int .i64 a) rfl (by kernel_rfl) (by kernel_rfl) (by kernel_rfl) (fun _ _ _ h => h) (Or.inl ⟨by rfl, fun w hSw => ?_⟩) hS0 ?_
  · have x0 := hSw; go_simp
  try simp only [Act.put, List.setIfInBounds_toArray, List.set_cons_zero, List.set_cons_succ, List.getElem_toArray, List.getElem_cons_zero, List.getElem_cons_succ]
  refine wpAnyH_take (i := 5) (oi := _) (v := .int .i64 c) rfl (by kernel_rfl) (by kernel_rfl) (by kernel_rfl) (fun _ _ _ h => h) (Or.inl ⟨by rfl, fun w hSw => ?_⟩) hS0 ?_
  · have x0 := hSw; go_simp
  try simp only [Act.put, List.setIfInBounds_toArray, List.set_cons_zero, List.set_cons_succ, List.getElem_toArray, List.getElem_cons_zero, List.getElem_cons_succ]
  refine wpAnyH_take (i := 6) (oi := _) (v := .int .i64 d) rfl (by kernel_rfl) (by kernel_rfl) (by kernel_rfl) (fun _ _ _ h => h) (Or.inl ⟨by rfl, fun w hSw => ?_⟩) hS0 ?_
  · have x0 := hSw; go_simp
  try simp only [Act.put, List.setIfInBounds_toArray, List.set_cons_zero, List.set_cons_succ, List.getElem_toArray, List.getElem_cons_zero, List.getElem_cons_succ]
  refine wpAnyH_take (i := 7) (oi := _) (v := .slice (some ⟨b, a, none⟩) (d - a) (c - a)) rfl (by kernel_rfl) (by kernel_rfl) (by kernel_rfl) (fun _ _ _ h => h) (Or.inl ⟨by rfl, fun w hSw => ?_⟩) hS0 ?_
  · have x0 := hSw; go_simp
  try simp only [Act.put, List.setIfInBounds_toArray, List.set_cons_zero, List.set_cons_succ, List.getElem_toArray, List.getElem_cons_zero, List.getElem_cons_succ]
  refine wpAnyH_take (i := 10) (oi := _) (v := .slice (some ⟨B, 0, none⟩) 1 1) rfl (by kernel_rfl) (by kernel_rfl) (by kernel_rfl) (fun _ _ _ h => h) (Or.inl ⟨by rfl, fun w hSw => ?_⟩) hS0 ?_
  · have x0 := hSw; go_simp
  try simp only [Act.put, List.setIfInBounds_toArray, List.set_cons_zero, List.set_cons_succ, List.getElem_toArray, List.getElem_cons_zero, List.getElem_cons_succ]
  refine wpAnyH_ready (rs := [1]) (by kernel_rfl) (by simp) (AllReadyH.cons (o := _) rfl (fun K' hK => ?_) AllReadyH.nil)
  simp only [List.getElem_toArray, List.getElem_cons_zero, List.getElem_cons_succ]
  rw [if_pos (by rfl)]
  go_simp
  refine Q1.out.mono ?_
  rintro e w2 ⟨rfl, rfl⟩
  refine hK.out _ _ (k0) (fun hS1 => ?_)
  clear hK K' hS0
  try simp only [Act.put, List.setIfInBounds_toArray, List.set_cons_zero, List.set_cons_succ, List.getElem_toArray, List.getElem_cons_zero, List.getElem_cons_succ]
  refine wpAnyH_ready (rs := [8]) (by kernel_rfl) (by simp) (AllReadyH.cons (o := _) rfl (fun K' hK => ?_) AllReadyH.nil)
  simp only [List.getElem_toArray, List.getElem_cons_zero, List.getElem_cons_succ]
  rw [if_pos (by rfl)]
  go_simp
  refine Q2.out.mono ?_
  rintro e w2 ⟨rfl, rfl⟩
  refine hK.out _ _ (k0) (fun hS2 => ?_)
  clear hK K' hS1
  try simp only [Act.put, List.setIfInBounds_toArray, List.set_cons_zero, List.set_cons_succ, List.getElem_toArray, List.getElem_cons_zero, List.getElem_cons_succ]
  refine wpAnyH_take (i := 9) (oi := _) (v := .int .i64 (bw - u : Nat)) rfl (by kernel_rfl) (by kernel_rfl) (by kernel_rfl) (fun _ _ _ h => h) (Or.inl ⟨by rfl, fun w hSw => ?_⟩) hS2 ?_
  · have x0 := hSw; go_simp
  try simp only [Act.put, List.setIfInBounds_toArray, List.set_cons_zero, List.set_cons_succ, List.getElem_toArray, List.getElem_cons_zero, List.getElem_cons_succ]
  refine wpAnyH_ready (rs := [11]) (by kernel_rfl) (by simp) (AllReadyH.cons (o := _) rfl (fun K' hK => ?_) AllReadyH.nil)
  simp only [List.getElem_toArray, List.getElem_cons_zero, List.getElem_cons_succ]
  rw [if_pos (by rfl)]
  go_simp
  refine Q3.out.mono ?_
  rintro e w2 ⟨rfl, rfl⟩
  refine hK.out _ _ (k0) (fun hS3 => ?_)
  clear hK K' hS2
  try simp only [Act.put, List.setIfInBounds_toArray, List.set_cons_zero, List.set_cons_succ, List.getElem_toArray, List.getElem_cons_zero, List.getElem_cons_succ]
  refine wpAnyH_take (i := 12) (oi := _) (v := .int .i64 (bw - u + bl : Nat)) rfl (by kernel_rfl) (by kernel_rfl) (by kernel_rfl) (fun _ _ _ h => h) (Or.inl ⟨by rfl, fun w hSw => ?_⟩) hS3 ?_
  · have x0 := hSw; go_simp
  try simp only [Act.put, List.setIfInBounds_toArray, List.set_cons_zero, List.set_cons_succ, List.getElem_toArray, List.getElem_cons_zero, List.getElem_cons_succ]
  refine wpAnyH_take (i := 13) (oi := _) (v := .bool (decide ((4096 : Int) < (bw - u + bl : Nat)))) rfl (by kernel_rfl) (by kernel_rfl) (by kernel_rfl) (fun _ _ _ h => h) (Or.inl ⟨by rfl, fun w hSw => ?_⟩) hS3 ?_
  · have x0 := hSw; go_simp
  try simp only [Act.put, List.setIfInBounds_toArray, List.set_cons_zero, List.set_cons_succ, List.getElem_toArray, List.getElem_cons_zero, List.getElem_cons_succ]
  refine wpAnyH_done (by kernel_rfl) ?_ _
  try dsimp only [Whole]
  have hrb := repL_bulk (W := W) (a := a) (n := c) (L := L2) (by rw [← Hc.out]; exact ham)
  rw [← Hu.out, ← Hbw.out, ← Hbl.out] at hrb
  obtain ⟨rb, hrb2⟩ : ∃ rb, rb = bulkL (repL W a c L2) := ⟨_, rfl⟩
  rw [← hrb2] at hrb
  rw [show bw - u + bl = rb by omega]
  have Hrb := Lib.hid hrb2
  have Hrbu := Lib.hid hrb
  clear hrb2 hws hwt hrb Q1 Q2 Q3
  by_cases hf : 4096 < rb
  · have hfI : (4096 : Int) < (rb : Int) := by omega
    go_wp2_with fail
    go_ret
    exact .inl ⟨by rw [← HL2.out, ← Hrb.out]; exact hf, rfl, by have h := H1b.out.drop.drew; rw [HR2.out] at h; exact h.p1.drop⟩
  have hfI : ¬ ((4096 : Int) < (rb : Int)) := by omega
  have hjl : (joinL L2).length ≤ bl := by rw [Hbl.out]; exact joinL_bulk L2
  have Cj := Lib.hid (ljoin Hn2.out H1b.out.drew Hk2.out.cons.cons (by omega) (by have := len_le_bulk L2; rw [← Hbl.out] at this; omega))
  obtain ⟨jn, hjn⟩ : ∃ jn, jn = joinL L2 := ⟨_, rfl⟩
  rw [← hjn] at Cj hjl
  have Hjn := Lib.hid hjn
  clear hjn k0 hS3
  go_wp2_with fail
  refine Cj.out.mono ?_
  rintro e w3 ⟨rfl, h3⟩
  have H3 := Lib.hid h3.drop
  clear h3 Cj
  obtain ⟨t3, x3, T3, hI3, h4⟩ := bE H3.out
  have k0 : w3.cell? ⟨p, 0, none⟩ = some (.pointer (some ⟨t3, 0, none⟩)) := h4.cell (j := 0) rfl
  have k1 : w3.cell? ⟨p, 1, none⟩ = some (.pointer (some ⟨x3, 0, none⟩)) := h4.cell (j := 1) rfl
  have hlf := (noLF_iff W).2 HB.out.lf
  have hbk := brk_join hlf HB.out.ne
  rw [← Hc.out] at hbk
  have hjw := join_len HB.out.ne
  rw [← Hbw.out] at hjw
  have Clen := Lib.hid (ilen h4.p2)
  obtain ⟨tx, htx⟩ : ∃ tx, tx = joinL W := ⟨_, rfl⟩
  rw [← htx] at Clen hjw H3 hbk
  have Htx := Lib.hid htx
  obtain ⟨s0, hs0⟩ : ∃ s0, s0 = bulkL (W.take a) := ⟨_, rfl⟩
  have hs0b : s0 ≤ bw := by rw [hs0, Hbw.out]; exact bulkL_take_le W a
  have Hs0 := Lib.hid hs0
  have Cst := Lib.hid (istart_in (h := a) (by rw [← htx] at h4; exact h4.p2) (by omega))
  rw [show lstart tx a = s0 by rw [htx, hs0]; exact lstart_lines hlf (by rw [← Hc.out]; omega)] at Cst
  clear htx hs0 hbk hI3 h4 hlf
  have hcz : ((c : Int) == 0) = false := beq_eq_false_iff_ne.2 (by omega)
  have hjl2 : jn.length + 1 = bl := by rw [Hjn.out, Hbl.out]; exact join_len HLne.out
  have Hjb := Lib.hid hjl2
  have hrbl : rb = bl := by rw [Hrb.out, Hbl.out, show a = 0 by omega, Hc.out, rep_all]
  have cp := bput 0 tx.length jn (by omega) (by omega) (by omega) (by have := Had2.out; rw [← Hbl.out] at this; omega) (by omega) H3.out
  rw [show tx.take 0 ++ jn ++ tx.drop (0 + tx.length) = joinL (repL W a c L2) by rw [show a = 0 by omega, Hc.out, rep_all, Hjn.out, Nat.zero_add, List.drop_length]; simp] at cp
  have cp : Calls Tryz.prog 33 #[.pointer (some ⟨p, 0, none⟩), .int .i64 0, .int .i64 tx.length, .string (bs jn)] w3 _ := cp
  have Cp := Lib.hid cp
  clear cp
  go_wp2_with fail
  refine Cst.out.mono ?_
  rintro e w' ⟨rfl, rfl⟩
  go_wp2_with fail
  refine Clen.out.mono ?_
  rintro e w' ⟨rfl, rfl⟩
  go_wp2_with fail
  refine Cp.out.mono ?_
  rintro e w5 ⟨e5, rfl, h5⟩
  obtain ⟨he5, h5⟩ := h5.pureE
  have H5 := Lib.hid (bufMore (ad' := ad + bl) (by have := Hjb.out; (try simp only [List.length_cons, List.length_append, List.length_nil]); omega) h5)
  clear h5 Cp
  go_wp2_with fail
  go_ret
  refine .inr ⟨by rw [← HL2.out, ← Hrb.out]; omega, rfl, e5, he5, ?_⟩
  rw [← HL2.out, ← Hbl.out]
  have h := H5.out
  rw [HR2.out] at h
  exact h.p1.drop
/-- The lines that come to be. -/
def newLs (W L : Ls) (m : Nat) : Ls := if m = W.length ∧ L = [] then [[]] else L
theorem breplace {la : Option Addr} {n lc a m : Nat} (hB : BufI W) (hM : MaxInt w0) (ham : a + m ≤ W.length) (hn : n = L.length) (hk : RdL w0 R (.slice la n lc) L) (hbr : brokenB L = false)
    (hb : bulkL L ≤ 80000) (had : ad + bulkL L + 1 ≤ 90000) (hed : ed ≤ 10000) (H : Owns w0 w (tbufA p (joinL W) ed ad :: R)) :
    Calls Tryz.prog 13 #[.pointer (some ⟨p, 0, none⟩), .int .i64 a, .int .i64 m, .slice la n lc] w (RepP w0 R p ed ad W a m (newLs W L m)) := by
  have h1 : ad + bulkL L ≤ 90000 := by omega
  by_cases hL : L = []
  · by_cases hm : m = W.length
    · rw [newLs, if_pos ⟨hm, hL⟩]
      exact brep_nil hB hM ham hn hk hbr hm hL hb (by omega) hed H
    · rw [newLs, if_neg (fun h => hm h.1)]
      by_cases hm0 : m = 0
      · by_cases ha : a = W.length
        · exact brep_noop0 hB hM ham hn hk hbr hm0 ha hL hb h1 hed H
        · exact brep_noop1 hB hM ham hn hk hbr hm0 (by omega) hL hb h1 hed H
      · by_cases hac : a + m = W.length
        · exact brep_cut hB hM ham hn hk hbr (by omega) (by omega) hac hL hb h1 hed H
        · exact brep_inx hB hM ham hn hk hbr (by omega) (by omega) hL hb h1 hed H
  · rw [newLs, if_neg (fun h => hL h.2)]
    by_cases hm : m = W.length
    · exact brep_all hB hM ham hn hk hbr hm hL hb h1 hed H
    · by_cases hac : a + m = W.length
      · by_cases hm0 : m = 0
        · exact brep_end0 hB hM ham hn hk hbr hm0 (by omega) hL hb h1 hed H
        · exact brep_end1 hB hM ham hn hk hbr (by omega) (by omega) hac hL hb h1 hed H
      · by_cases hm0 : m = 0
        · exact brep_in0 hB hM ham hn hk hbr hm0 (by omega) hL hb h1 hed H
        · exact brep_in1 hB hM ham hn hk hbr (by omega) (by omega) hL hb h1 hed H
end
end Go.Proofs.YtcdoomlagmddcaaGreatDoor
