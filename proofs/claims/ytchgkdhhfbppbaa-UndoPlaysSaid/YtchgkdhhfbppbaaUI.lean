/- change.Inverse. -/
import Derived.Test.YtchgkdhhfbppbaaUC
import Derived.Test.YtchgkdhhfbppbaaBackChg
import Derived.Test.YtchgkdhhfbppbaaHeldIn2
import Derived.Test.YtchgkdhhfbppbaaRangeS
namespace Go.Proofs.Ytchgkdhhfbppbaa
open Go Go.RowKit Go.Fol
attribute [local go_sem ↓] Go.wp_at_zero Go.wp_at_succ
attribute [local go_sem] Oper.semAt_some
set_option linter.unusedVariables false
set_option linter.unusedSimpArgs false
def invD (d : CD) : CD := (d.1, d.2.2, d.2.1)
def invL (D : List CD) : List CD := (D.map invD).reverse
section
variable {w0 w : World} {R : List Asrt}
theorem Owns.vecMake {vt e : TypeId} {k b n : Nat} {sv : Value} {xs : List Value} (H : Owns w0 w (Asrt.obj b (.cells #[sv] vt (0, 0)) :: Asrt.row e k sv n xs :: R)) : VecAt w vt e k b sv n xs ∧ Owns w0 w (Asrt.vec vt e k b n xs :: R) := by
  obtain ⟨hc, F, ⟨rfl, hF⟩, hs, G, ⟨rfl, hG⟩, ht, hr⟩ := H
  have hv : VecAt w vt e k b sv n xs := ⟨hF, hG, fun h => (ht b (by simp [h])).2 (by simp)⟩
  refine ⟨hv, hc, vfoot b sv, ⟨sv, rfl, hv⟩, fun c hcm => ?_, hr.mono (fun c h1 _ => ⟨h1.1.1, fun h2 => ?_⟩)⟩
  · simp only [vfoot, List.mem_cons] at hcm
    rcases hcm with rfl | h
    · exact hs _ (by simp)
    · exact (ht c h).1
  · simp only [vfoot, List.mem_cons] at h2
    rcases h2 with rfl | h
    · exact h1.1.2 (by simp)
    · exact h1.2 h
theorem Owns.vecOpen {vt e : TypeId} {k b n : Nat} {xs : List Value} (H : Owns w0 w (Asrt.vec vt e k b n xs :: R)) : ∃ sv, Owns w0 w (Asrt.obj b (.cells #[sv] vt (0, 0)) :: Asrt.row e k sv n xs :: R) := by
  obtain ⟨hc, F, ⟨sv, rfl, hv⟩, hs, hr⟩ := H
  refine ⟨sv, hc, [b], ⟨rfl, hv.obj⟩, fun c hcm => hs c (by simp at hcm; simp [vfoot, hcm]), sv.ownBlock.toList, ⟨rfl, hv.row⟩, fun c hcm => ⟨hs c (by simp only [vfoot, List.mem_cons]; exact .inr hcm), fun h => ?_⟩, hr.mono (fun c h1 _ => ⟨⟨h1.1, fun h => h1.2 (by simp at h; simp [vfoot, h])⟩, fun h => h1.2 (by simp only [vfoot, List.mem_cons]; exact .inr h)⟩)⟩
  simp at h
  subst h
  exact hv.ne (by simpa using hcm)
/-- Blocks that stayed hold the vector that they held. -/
theorem Owns.vecOfSame {W : World} {vt e : TypeId} {k b n : Nat} {sv : Value} {xs : List Value} (hv : VecAt W vt e k b sv n xs) (H : Owns w0 w (Asrt.same W (vfoot b sv) :: R)) : Owns w0 w (Asrt.vec vt e k b n xs :: R) :=
  H.step1 (fun F ⟨hF, h⟩ _ => by
    subst hF
    exact ⟨Chg.refl _ _, vfoot b sv, ⟨sv, rfl, keepB_vec hv (fun c hc => (h c hc).2) (fun _ h => h)⟩, fun c hc => .inl hc⟩)
theorem Owns.rowOfSame {W : World} {vt e : TypeId} {k b n : Nat} {sv : Value} {xs : List Value} (hv : VecAt W vt e k b sv n xs) (H : Owns w0 w (Asrt.same W (vfoot b sv) :: R)) : Owns w0 w (Asrt.row e k sv n xs :: R) :=
  H.step1 (fun F ⟨hF, h⟩ _ => by
    subst hF
    exact ⟨Chg.refl _ _, sv.ownBlock.toList, ⟨rfl, (keepB_vec hv (fun c hc => (h c hc).2) (fun _ h => h)).row⟩, fun c hc => .inl (by simp only [vfoot, List.mem_cons]; exact .inr hc)⟩)
theorem inv_take {L : List Ch} {k : Nat} {c : Ch} (hk : k < L.length) (h : L[L.length - 1 - k]? = some c) : (invL (datL L)).take k ++ [invD c.dat] = (invL (datL L)).take (k + 1) := by
  have e : (invL (datL L))[k]? = some (invD c.dat) := by
    rw [invL, List.getElem?_reverse (by simpa using hk)]
    simp [h]
  obtain ⟨h1, h2⟩ := List.getElem?_eq_some_iff.1 e
  rw [List.take_succ_eq_append_getElem h1, h2]
theorem are_chs (L : List Ch) : are_chg (chs L) L.length := fun i hi => ⟨_, _, _, _, _, _, _, chs_get (List.getElem?_eq_getElem hi)⟩
theorem back_chg (v : Value) (n : Nat) (xs : List Value) (w : World) (h : w.ownsRow 0 49 3 v n xs) :
    Calls Try.prog 34 #[v] w fun e w' => e = .returned (.func (.func 38) #[] #[.pointer (some ⟨w.heap.size, 0, none⟩)]) ∧ w' = w.alloc (.cells #[v] 30) := by
  obtain ⟨a, c, rfl⟩ := row_slice h
  clear h
  go_enter Try.func34, Try.ntmps34
  go_wp2_with fail
  go_ret
  exact ⟨rfl, rfl⟩
set_option maxHeartbeats 2000000 in
set_option maxRecDepth 100000 in
theorem cinverse {v : Value} {L : List Ch} (H : Owns w0 w (row_chg v L.length (chs L) :: chsA L :: R)) (hok : OkL (datL L)) (hl : L.length ≤ 100000) :
    Calls Try.prog 27 #[v] w (RetX (fun x : Value × List Ch => x.1) w0 (fun x => Asrt.pure (datL x.2 = invL (datL L)) :: row_chg x.1 x.2.length (chs x.2) :: chsA x.2 :: row_chg v L.length (chs L) :: chsA L :: R)) := by
  obtain ⟨la, lc, rfl⟩ := row_slice H.row
  obtain ⟨n, hn⟩ : ∃ n, n = L.length := ⟨_, rfl⟩
  rw [← hn] at H hl ⊢
  have Hn := Lib.hid hn
  have Hok := Lib.hid hok
  obtain ⟨B, hB⟩ : ∃ B, B = w.heap.size := ⟨_, rfl⟩
  have H1 := Lib.hid (H.alloc #[.slice none 0 0] 30)
  clear H hn hok
  refine calls_of_wp_marks Try.func27 rfl ?_
  simp only [Try.ntmps27, List.size_toArray, List.length_cons, List.length_nil, Nat.reduceAdd, Nat.reduceSub, Array.replicate_succ, Array.replicate_zero, List.push_toArray, List.append_toArray, List.nil_append, List.cons_append]
  go_wp2_with fail
  refine (back_chg _ _ _ _ H1.out.p1.row).mono ?_
  rintro e w1 ⟨rfl, rfl⟩
  obtain ⟨b, hb⟩ : ∃ b, b = (w.alloc (.cells #[.slice none 0 0] 30)).heap.size := ⟨_, rfl⟩
  have h2 := H1.out.alloc #[.slice la n lc] 30
  rw [← hb] at h2 ⊢
  rw [← hB] at h2
  rw [show (w.alloc (.cells #[.slice none 0 0] 30)) = w.alloc (.cells #[.slice none 0 0] 30) from rfl]
  obtain ⟨W2, hW2⟩ : ∃ W2, W2 = (w.alloc (.cells #[.slice none 0 0] 30)).alloc (.cells #[.slice la n lc] 30) := ⟨_, rfl⟩
  rw [← hW2] at h2
  obtain ⟨hv, h3⟩ := Owns.vecMake (h2.ord [0, 1])
  have hseq := seq_back_chg b (.slice la n lc) n (chs L) W2 hv (by rw [Hn.out]; exact are_chs L)
  obtain ⟨sv2, hv2, hu⟩ := h3.vec
  have h4 := (h3.toSame (F := vfoot b (.slice la n lc)) (by
    intro G hG
    have h1 := hv.cell
    rw [hv2.cell] at h1
    cases h1
    exact hu G hG))
  have Hseq := Lib.hid hseq
  have H4 := Lib.hid h4
  have Hv := Lib.hid hv
  have HW2 := Lib.hid hW2
  have HB := Lib.hid hB
  clear hv hseq h2 h3 h4 H1 hv2 hu hb hW2 hB
  go_wp2_with fail
  rw [← HB.out, ← HW2.out]
  clear HB HW2
  refine wp_range_own3 (gf := 38) (lb := #[.pointer (some ⟨b, 0, none⟩)]) rfl (enters_fn Try.func38 (by kernel_rfl) rfl) Hseq.out (fun _ => rfl) (w0 := w0)
    (R := chsA L :: R)
    (fun k => Asrt.ex fun s : Value => Asrt.ex fun M : List Ch => Asrt.all [Asrt.pure (datL M = (invL (datL L)).take k), Asrt.obj B (.cells #[s] 30 (0, 0)), row_chg s M.length (chs M), chsA M])
    (fun k a' => Asrt.ex fun s : Value => Asrt.ex fun M : List Ch => Asrt.ex fun C : Nat => Asrt.ex fun c : Ch => Asrt.all [Asrt.pure (L[n - 1 - k]? = some c ∧ datL M = (invL (datL L)).take k ∧ a' = { tmps := #[.slice la n lc, undef, .slice none 0 0, .pointer (some ⟨B, 0, none⟩), undef, .pointer (some ⟨C, 0, none⟩), .slice la n lc, .func (.func 38) #[] #[.pointer (some ⟨b, 0, none⟩)], .int .i64 ((n - 1 - k : Nat) : Int), .agg #[.int .i64 c.at_, c.ov, c.nv], undef, undef, undef, undef, undef, undef, undef, undef, undef, undef, undef, undef, undef], defers := [] }), Asrt.obj C (.cells #[.int .i64 c.at_, c.ov, c.nv] 49 (0, 0)), Asrt.obj B (.cells #[s] 30 (0, 0)), row_chg s M.length (chs M), chsA M])
    (fun _ => Asrt.pure False) ?start ?assign ?body ?done ?stop
  case start =>
    refine Owns.exI (.slice none 0 0) (Owns.exI [] (Owns.allI (L := [_, _, _, _]) (Owns.pureI ?_ rfl)))
    exact ((chsA_nil H4.out).rowNil 49 3).ord [3, 0, 0, 0]
  case assign =>
    intro l k W Kk Z hk HW hkk
    obtain ⟨c, hq⟩ : ∃ c, L[n - 1 - k]? = some c := ⟨_, List.getElem?_eq_getElem (by have := Hn.out; omega)⟩
    have hg := chs_get hq
    have e0 : (chs L)[(n - 1 - k) * 3]?.getD undef = .int .i64 c.at_ := by rw [hg.1]; rfl
    have e1 : (chs L)[(n - 1 - k) * 3 + 1]?.getD undef = c.ov := by rw [hg.2.1]; rfl
    have e2 : (chs L)[(n - 1 - k) * 3 + 2]?.getD undef = c.nv := by rw [hg.2.2]; rfl
    simp only [e0, e1, e2]
    have HW1 := Lib.hid HW
    have Hq := Lib.hid hq
    have Hkk := Lib.hid hkk
    clear hg e0 e1 e2 HW hq hkk
    gi_wp2
    obtain ⟨s, h⟩ := HW1.out.exE
    obtain ⟨M, h⟩ := h.exE
    obtain ⟨hM, h⟩ := (Owns.allE (L := [_, _, _, _]) h).pureE
    exact Hkk.out _ _ (Owns.exI s (Owns.exI M (Owns.exI W.heap.size (Owns.exI c (Owns.allI (L := [_, _, _, _, _]) (Owns.pureI (h.alloc _ _) ⟨Hq.out, hM, rfl⟩))))))
  case body =>
    intro l k a' W Z hk HW
    obtain ⟨s, HW⟩ := HW.exE
    obtain ⟨M, HW⟩ := HW.exE
    obtain ⟨C, HW⟩ := HW.exE
    obtain ⟨c, HW⟩ := HW.exE
    obtain ⟨⟨hq, hM, rfl⟩, HW'⟩ := (Owns.allE (L := [_, _, _, _, _]) HW).pureE
    clear HW
    have hmem := List.mem_of_getElem? hq
    have hrd := chsA_reads (w0 := w0) (R := [Asrt.obj C (.cells #[.int .i64 c.at_, c.ov, c.nv] 49 (0, 0)), Asrt.obj B (.cells #[s] 30 (0, 0)), row_chg s M.length (chs M), chsA M] ++ Z :: chsA L :: R) (L := L) (by simp) c hmem
    obtain ⟨hro, hrn⟩ := hrd
    obtain ⟨hok1, hok2⟩ := Hok.out c.dat (List.mem_map.2 ⟨c, hmem, rfl⟩)
    have hit := inv_take (by rw [← Hn.out]; exact hk) (by rw [← Hn.out]; exact hq)
    rw [← hM] at hit
    have hMl : M.length = k := by have := congrArg List.length hM; simp [invL] at this; have := Hn.out; omega
    obtain ⟨sa, sc, rfl⟩ := row_slice HW'.p2.row
    obtain ⟨at_, co, cc, no, nc, old, new⟩ := c
    dsimp only [Ch.ov, Ch.nv, Ch.dat] at *
    have c0 := HW'.drew.cell (j := 0) rfl
    have c1 := HW'.drew.cell (j := 1) rfl
    have c2 := HW'.drew.cell (j := 2) rfl
    have b0 := HW'.drew.p1.cell (j := 0) rfl
    have H5 := Lib.hid HW'.drew
    have Hit := Lib.hid hit
    have Hro := Lib.hid hro
    have Hrn := Lib.hid hrn
    have HMl := Lib.hid hMl
    clear HW' hit hro hrn hq hM hmem hMl
    gi_wp2_with fail
    refine wpIn_region_T (fun w' => w'.cell? ⟨C, 0, none⟩ = some (.int .i64 at_) ∧ w'.cell? ⟨C, 1, none⟩ = some (.slice co old.length cc) ∧ w'.cell? ⟨C, 2, none⟩ = some (.slice no new.length nc) ∧ w'.cell? ⟨B, 0, none⟩ = some (.slice sa M.length sc)) 12 (by kernel_rfl) (by rfl) ⟨c0, c1, c2, b0⟩ (fun hS => ?_)
    refine wpAnyT_take (i := 0) (oi := _) (v := .slice sa M.length sc) [12] rfl (by kernel_rfl) (fun _ _ _ h => h) (Or.inl ⟨by rfl, fun w hSw => ?_⟩) hS ?_
    · obtain ⟨x0, x1, x2, x3⟩ := hSw; go_simp
    try simp only [Act.put, List.setIfInBounds_toArray, List.set_cons_zero, List.set_cons_succ, List.getElem_toArray, List.getElem_cons_zero, List.getElem_cons_succ]
    refine wpAnyT_take (i := 1) (oi := _) (v := .pointer (some ⟨C, 0, none⟩)) [12] rfl (by kernel_rfl) (fun _ _ _ h => h) (Or.inl ⟨by rfl, fun w hSw => ?_⟩) hS ?_
    · obtain ⟨x0, x1, x2, x3⟩ := hSw; go_simp
    try simp only [Act.put, List.setIfInBounds_toArray, List.set_cons_zero, List.set_cons_succ, List.getElem_toArray, List.getElem_cons_zero, List.getElem_cons_succ]
    refine wpAnyT_take (i := 2) (oi := _) (v := .int .i64 at_) [12] rfl (by kernel_rfl) (fun _ _ _ h => h) (Or.inl ⟨by rfl, fun w hSw => ?_⟩) hS ?_
    · obtain ⟨x0, x1, x2, x3⟩ := hSw; go_simp
    try simp only [Act.put, List.setIfInBounds_toArray, List.set_cons_zero, List.set_cons_succ, List.getElem_toArray, List.getElem_cons_zero, List.getElem_cons_succ]
    refine wpAnyT_take (i := 3) (oi := _) (v := .pointer (some ⟨C, 2, none⟩)) [12] rfl (by kernel_rfl) (fun _ _ _ h => h) (Or.inl ⟨by rfl, fun w hSw => ?_⟩) hS ?_
    · obtain ⟨x0, x1, x2, x3⟩ := hSw; go_simp
    try simp only [Act.put, List.setIfInBounds_toArray, List.set_cons_zero, List.set_cons_succ, List.getElem_toArray, List.getElem_cons_zero, List.getElem_cons_succ]
    refine wpAnyT_take (i := 4) (oi := _) (v := .slice no new.length nc) [12] rfl (by kernel_rfl) (fun _ _ _ h => h) (Or.inl ⟨by rfl, fun w hSw => ?_⟩) hS ?_
    · obtain ⟨x0, x1, x2, x3⟩ := hSw; go_simp
    try simp only [Act.put, List.setIfInBounds_toArray, List.set_cons_zero, List.set_cons_succ, List.getElem_toArray, List.getElem_cons_zero, List.getElem_cons_succ]
    refine wpAnyT_take (i := 6) (oi := _) (v := .pointer (some ⟨C, 1, none⟩)) [12] rfl (by kernel_rfl) (fun _ _ _ h => h) (Or.inl ⟨by rfl, fun w hSw => ?_⟩) hS ?_
    · obtain ⟨x0, x1, x2, x3⟩ := hSw; go_simp
    try simp only [Act.put, List.setIfInBounds_toArray, List.set_cons_zero, List.set_cons_succ, List.getElem_toArray, List.getElem_cons_zero, List.getElem_cons_succ]
    refine wpAnyT_take (i := 7) (oi := _) (v := .slice co old.length cc) [12] rfl (by kernel_rfl) (fun _ _ _ h => h) (Or.inl ⟨by rfl, fun w hSw => ?_⟩) hS ?_
    · obtain ⟨x0, x1, x2, x3⟩ := hSw; go_simp
    try simp only [Act.put, List.setIfInBounds_toArray, List.set_cons_zero, List.set_cons_succ, List.getElem_toArray, List.getElem_cons_zero, List.getElem_cons_succ]
    refine wpAnyT_step (i := 5) (o := _) rfl (by kernel_rfl) (fun K' hK => ?_)
    simp only [List.getElem_toArray, List.getElem_cons_zero, List.getElem_cons_succ]
    rw [if_pos (by rfl)]
    go_simp
    refine (o_clone_str (.slice no new.length nc) new.length (strs new) H5.out Hrn.out (strs_one _) hok2).mono ?_
    rintro e w1 ⟨v1, rfl, h6⟩
    obtain ⟨a1, k1, rfl⟩ := row_slice h6.row
    refine hK.out _ _ ⟨h6.p1.cell (j := 0) rfl, h6.p1.cell (j := 1) rfl, h6.p1.cell (j := 2) rfl, h6.p2.cell (j := 0) rfl⟩ (fun hS1 => ?_)
    have H6 := Lib.hid h6
    clear h6 hK K' hS H5
    try simp only [Act.put, List.setIfInBounds_toArray, List.set_cons_zero, List.set_cons_succ, List.getElem_toArray, List.getElem_cons_zero, List.getElem_cons_succ]
    refine wpAnyT_step (i := 8) (o := _) rfl (by kernel_rfl) (fun K' hK => ?_)
    simp only [List.getElem_toArray, List.getElem_cons_zero, List.getElem_cons_succ]
    rw [if_pos (by rfl)]
    go_simp
    refine (o_clone_str (.slice co old.length cc) old.length (strs old) H6.out Hro.out.cons (strs_one _) hok1).mono ?_
    rintro e w2 ⟨v2, rfl, h7⟩
    obtain ⟨a2, k2, rfl⟩ := row_slice h7.row
    refine hK.out _ _ ⟨h7.p2.cell (j := 0) rfl, h7.p2.cell (j := 1) rfl, h7.p2.cell (j := 2) rfl, h7.p3.cell (j := 0) rfl⟩ (fun hS2 => ?_)
    have H7 := Lib.hid h7
    clear h7 hK K' hS1 H6
    try simp only [Act.put, List.setIfInBounds_toArray, List.set_cons_zero, List.set_cons_succ, List.getElem_toArray, List.getElem_cons_zero, List.getElem_cons_succ]
    refine wpAnyT_take (i := 9) (oi := _) (v := .agg #[.int .i64 at_, .slice a1 new.length k1, .slice a2 old.length k2]) [12] rfl (by kernel_rfl) (fun _ _ _ h => h) (Or.inl ⟨by rfl, fun w hSw => ?_⟩) hS2 ?_
    · go_simp
    try simp only [Act.put, List.setIfInBounds_toArray, List.set_cons_zero, List.set_cons_succ, List.getElem_toArray, List.getElem_cons_zero, List.getElem_cons_succ]
    refine wpAnyT_step (i := 10) (o := _) rfl (by kernel_rfl) (fun K' hK => ?_)
    simp only [List.getElem_toArray, List.getElem_cons_zero, List.getElem_cons_succ]
    rw [if_pos (by rfl)]
    go_simp
    have h8 := H7.out.alloc #[.int .i64 at_, .slice a1 new.length k1, .slice a2 old.length k2] 49
    refine hK.out _ _ ⟨h8.p3.cell (j := 0) rfl, h8.p3.cell (j := 1) rfl, h8.p3.cell (j := 2) rfl, h8.p4.cell (j := 0) rfl⟩ (fun hS3 => ?_)
    obtain ⟨s', w5, hrn, h9⟩ := app_chg (x := .slice (some ⟨w2.heap.size, 0, none⟩) 1 1) (m := 1) (vs := [.int .i64 at_, .slice a1 new.length k1, .slice a2 old.length k2]) (h8.ord [5]) (Reads.obj (b := w2.heap.size) (k := 3) (n := 1) (t := 49) (f := (0, 0)) (cs := #[.int .i64 at_, .slice a1 new.length k1, .slice a2 old.length k2]) (by simp [ordL, takeAt]) (by decide) (by decide) (by simp)) (by simp [Value.oneCell']) (by unfold maxLen; have := HMl.out; omega) (by have := HMl.out; omega)
    obtain ⟨sa', sc', rfl⟩ := row_slice h9.row
    have H9 := Lib.hid h9
    clear h8 h9 hK K' hS2 H7
    try simp only [Act.put, List.setIfInBounds_toArray, List.set_cons_zero, List.set_cons_succ, List.getElem_toArray, List.getElem_cons_zero, List.getElem_cons_succ]
    refine wpAnyT_step (i := 11) (o := _) rfl (by kernel_rfl) (fun K' hK => ?_)
    simp only [List.getElem_toArray, List.getElem_cons_zero, List.getElem_cons_succ]
    rw [if_pos (by rfl)]
    refine wp_append_run (.tmp 10) (.tmp 20) 30 30 (.slice sa M.length sc) (.slice (some ⟨w2.heap.size, 0, none⟩) 1 1) (hrn 30) rfl rfl rfl ?_
    have h9 := H9.out.ord [4, 4]
    refine hK.out _ _ ⟨h9.cell (j := 0) rfl, h9.cell (j := 1) rfl, h9.cell (j := 2) rfl, h9.p1.cell (j := 0) rfl⟩ (fun hS4 => ?_)
    have fb := h9.p1.frozen 0
    obtain ⟨d0, d1, d2, d3⟩ := hS4
    clear hK K' hS3 hrn
    try simp only [Act.put, List.setIfInBounds_toArray, List.set_cons_zero, List.set_cons_succ, List.getElem_toArray, List.getElem_cons_zero, List.getElem_cons_succ]
    refine wpAnyT_last (i := 12) (o := _) rfl (by kernel_rfl) (by kernel_rfl) (fun K' hK => ?_)
    simp only [List.getElem_toArray, List.getElem_cons_zero, List.getElem_cons_succ]
    rw [if_pos (by rfl)]
    go_simp
    refine hK.out _ _ (wpAnyT_done (by kernel_rfl) ?_ _)
    have ha := h9.p1.set 0 (.slice sa' (M.length + 1) sc')
    have hb := chsA_snoc (chA_of (x := at_) ((ha.ord [1, 2, 3, 2, 2]).drop.drop))
    rw [show chs M ++ [.int .i64 at_, .slice a1 new.length k1, .slice a2 old.length k2] = chs (M ++ [⟨at_, a1, k1, a2, k2, new, old⟩]) from chs_snoc M ⟨at_, a1, k1, a2, k2, new, old⟩] at hb
    show Owns w0 _ ((Asrt.ex fun s : Value => Asrt.ex fun M : List Ch => Asrt.all [Asrt.pure (datL M = (invL (datL L)).take (k + 1)), Asrt.obj B (.cells #[s] 30 (0, 0)), row_chg s M.length (chs M), chsA M]) :: Z :: chsA L :: R)
    refine Owns.exI (.slice sa' (M.length + 1) sc') (Owns.exI (M ++ [⟨at_, a1, k1, a2, k2, new, old⟩]) (Owns.allI (L := [_, _, _, _]) (Owns.pureI ?_ (by rw [← Hit.out]; simp [Ch.dat, invD]))))
    rw [List.length_append]
    exact hb.ord [1, 1, 0]
  case done =>
    intro D W HW
    obtain ⟨s, HW⟩ := HW.exE
    obtain ⟨M, HW⟩ := HW.exE
    obtain ⟨hM, h⟩ := (Owns.allE (L := [_, _, _, _]) HW).pureE
    rw [List.take_of_length_le (by simp [invL, Hn.out])] at hM
    have kb : W.cell? ⟨B, 0, none⟩ = some s := h.cell (j := 0) rfl
    have h6 := Owns.rowOfSame Hv.out (h.ord [4])
    have HM := Lib.hid hM
    have H7 := Lib.hid h6
    clear HW h h6 hM
    go_wp2_with fail
    refine leaves_own [D] _ (H7.out.ord [4]) (fun w' hw' => ?_)
    exact ⟨s, by simp [results, Try.f27, go_sem], (s, M), rfl, ((hw'.ord [1]).drop.ord [1, 1]).pureI HM.out⟩
  case stop =>
    intro D cd W HW
    exact HW.pureE.1.elim
end
end Go.Proofs.Ytchgkdhhfbppbaa
