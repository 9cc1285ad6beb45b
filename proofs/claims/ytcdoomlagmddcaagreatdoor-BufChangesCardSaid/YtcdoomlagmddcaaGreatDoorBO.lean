/- One change, applied: the reference's own. -/
import Derived.Test.YtcdoomlagmddcaaGreatDoorBL
namespace Go.Proofs.YtcdoomlagmddcaaGreatDoor
open Go Go.RowKit Go.Fol
attribute [local go_sem ↓] Go.wp_at_zero Go.wp_at_succ
set_option linter.unusedVariables false
set_option linter.unusedSimpArgs false
attribute [-go_sem] Go.Builtin.append_
set_option maxRecDepth 100000
section
variable {w0 w : World} {R : List Asrt}
set_option maxHeartbeats 1000000 in
theorem hsame {va vb : Value} {A : Ls} (H : Owns w0 w R) (ha : RdL w0 R va A) (hb : RdL w0 R vb A) :
    Calls Tryz.prog 59 #[va, vb] w (Ret (.bool true) w0 R) := by
  obtain ⟨aa, ac, rfl⟩ := (ha w H).form
  obtain ⟨ba, bc, rfl⟩ := (hb w H).form
  have hn63 := (ha w H).n63
  have Hca := Lib.hid (fun i x (hx : A[i]? = some x) wr hr => rdl_cell (w := wr) ha hx hr)
  have Hcb := Lib.hid (fun i x (hx : A[i]? = some x) wr hr => rdl_cell (w := wr) hb hx hr)
  obtain ⟨n, hn⟩ : ∃ n, n = A.length := ⟨_, rfl⟩
  rw [← hn] at ha hb hn63 ⊢
  have HH := Lib.hid H
  have Hn := Lib.hid hn
  clear H ha hb hn
  go_enter Tryz.func59, Tryz.ntmps59
  go_wp2_with fail
  go_loopw [5] (fun q wr => ∃ i : Nat, i ≤ n ∧ q = .int .i64 i ∧ Owns w0 wr R) (fun q _ => n - (intOf q).toNat)
  case atStart => exact ⟨0, Nat.zero_le _, rfl, HH.out⟩
  case round =>
    obtain ⟨i, hi, rfl, hr⟩ := hrel
    have Hr := Lib.hid hr
    by_cases hlt : i < n
    · obtain ⟨x, hx⟩ : ∃ x, A[i]? = some x := ⟨_, List.getElem?_eq_getElem (by rw [← Hn.out]; exact hlt)⟩
      obtain ⟨ab, ao, ac', e1, hac, ca⟩ := Hca.out i x hx wr hr
      obtain ⟨bb, bo, bc', e2, hbc, cb⟩ := Hcb.out i x hx wr hr
      rw [← Hn.out] at e1 hac e2 hbc
      cases e1
      cases e2
      clear hx hr
      generalize bs x = s at *
      go_wp2
      go_quiet (fail)
      go_wp2
      go_roundw
      case rel => exact ⟨i + 1, by omega, by go_num, Hr.out.drewN _⟩
      case measure => simp [intOf]; omega
    · go_wp2
      go_ret
      exact ⟨rfl, Hr.out⟩
set_option maxHeartbeats 4000000 in
theorem rone {la oa na : Option Addr} {n lc a k oc m nc : Nat} {L N : Ls} (hn : n = L.length) (hm : m = N.length) (hak : a + k ≤ n) (hpos : 0 < n - k + m) (hn1 : n ≤ 10000) (hm1 : m ≤ 10000) (H : Owns w0 w R) (hl : RdL w0 R (.slice la n lc) L) (ho : RdL w0 R (.slice oa k oc) ((L.drop a).take k)) (hN : RdL w0 R (.slice na m nc) N) :
    Calls Tryz.prog 36 #[.slice la n lc, .agg #[.int .i64 a, .slice oa k oc, .slice na m nc]] w (RetX (fun v : Value => .tuple #[v, .bool true]) w0 (fun v => row_str v (repL L a k N).length (lstrs (repL L a k N)) :: R)) := by
  have h1 := H.alloc #[.int .i64 a, .slice oa k oc, .slice na m nc] 42
  obtain ⟨Z, hZ⟩ : ∃ Z, Z = w.heap.size := ⟨_, rfl⟩
  rw [← hZ] at h1
  have hkc : n ≤ lc := by have h2 := hl w H; rw [← hn] at h2; exact h2.capLe
  obtain ⟨d, hd⟩ : ∃ d, d = n - a := ⟨_, rfl⟩
  obtain ⟨e, he⟩ : ∃ e, e = a + k := ⟨_, rfl⟩
  obtain ⟨f, hf⟩ : ∃ f, f = n - k := ⟨_, rfl⟩
  obtain ⟨g, hg⟩ : ∃ g, g = f + m := ⟨_, rfl⟩
  have wd : IntKind.i64.wrap ((n : Int) - a) = (d : Int) := by rw [IntKind.wrap_i64]; omega
  have we : IntKind.i64.wrap ((a : Int) + k) = (e : Int) := by rw [IntKind.wrap_i64]; omega
  have wf : IntKind.i64.wrap ((n : Int) - k) = (f : Int) := by rw [IntKind.wrap_i64]; omega
  have wg : IntKind.i64.wrap ((f : Int) + m) = (g : Int) := by rw [IntKind.wrap_i64]; omega
  have han : a ≤ n := by omega
  have hkd : k ≤ d := by omega
  have hen : e ≤ n := by omega
  have hae : a ≤ e := by omega
  have hea : e - a = k := by omega
  have hel : e ≤ lc := by omega
  have hal : a ≤ lc := by omega
  have hg0 : ((g : Int) == 0) = false := beq_eq_false_iff_ne.2 (by omega)
  obtain ⟨la2, hla2⟩ : ∃ la2, (if lc = a then la else Option.map (fun x : Addr => x.add a) la) = la2 := ⟨_, rfl⟩
  obtain ⟨la3, hla3⟩ : ∃ la3, (if lc = e then la else Option.map (fun x : Addr => x.add e) la) = la3 := ⟨_, rfl⟩
  have hl1 : RdL w0 (Asrt.obj Z (.cells #[.int .i64 a, .slice oa k oc, .slice na m nc] 42 (0, 0)) :: R) (.slice la2 k (lc - a)) ((L.drop a).take k) := by
    have h2 := rdl_post hn hl han hla2
    have h3 := rdl_pre (n := n - a) (by rw [List.length_drop, hn]) h2 (a := k) (by omega)
    exact h3.cons
  have k0 := h1.cell (j := 0) rfl
  have k1 := h1.cell (j := 1) rfl
  have k2 := h1.cell (j := 2) rfl
  have q0 : ∀ {w2 : World} {S : List Asrt}, Owns w0 w2 (Asrt.obj Z (.cells #[.int .i64 a, .slice oa k oc, .slice na m nc] 42 (0, 0)) :: S) → w2.cell? ⟨Z, 0, none⟩ = some (.int .i64 a) := fun h => h.cell (j := 0) rfl
  have q1 : ∀ {w2 : World} {S : List Asrt}, Owns w0 w2 (Asrt.obj Z (.cells #[.int .i64 a, .slice oa k oc, .slice na m nc] 42 (0, 0)) :: S) → w2.cell? ⟨Z, 1, none⟩ = some (.slice oa k oc) := fun h => h.cell (j := 1) rfl
  have q2 : ∀ {w2 : World} {S : List Asrt}, Owns w0 w2 (Asrt.obj Z (.cells #[.int .i64 a, .slice oa k oc, .slice na m nc] 42 (0, 0)) :: S) → w2.cell? ⟨Z, 2, none⟩ = some (.slice na m nc) := fun h => h.cell (j := 2) rfl
  have Cs := Lib.hid (hsame h1.drew hl1 ho.cons)
  have HL := Lib.hid hl
  have HN := Lib.hid hN
  have Hn := Lib.hid hn
  have Hm := Lib.hid hm
  have HZ := Lib.hid hZ
  have Hd := Lib.hid hd
  have He := Lib.hid he
  have Hf := Lib.hid hf
  have Hg := Lib.hid hg
  clear H h1 hl ho hN hn hm hZ hl1 hd he hf hg
  go_enter Tryz.func36, Tryz.ntmps36
  go_upto_region 1 with (fail)
  rw [← HZ.out]
  refine wp_region_held_drew (S := (fun w' => w'.cell? ⟨Z, 0, none⟩ = some (.int .i64 a) ∧ w'.cell? ⟨Z, 1, none⟩ = some (.slice oa k oc) ∧ w'.cell? ⟨Z, 2, none⟩ = some (.slice na m nc))) (by kernel_rfl) ⟨k0, k1, k2⟩ (fun hS0 => ?_)
  refine wpAnyH_take (i := 0) (oi := _) (v := .pointer (some ⟨Z, 0, none⟩)) rfl (by kernel_rfl) (by kernel_rfl) (by kernel_rfl) (fun _ _ _ h => h) (Or.inl ⟨by rfl, fun w hSw => ?_⟩) hS0 ?_
  · obtain ⟨x0, x1, x2⟩ := hSw; go_simp
  try simp only [Act.put, List.setIfInBounds_toArray, List.set_cons_zero, List.set_cons_succ, List.getElem_toArray, List.getElem_cons_zero, List.getElem_cons_succ]
  refine wpAnyH_take (i := 1) (oi := _) (v := .int .i64 a) rfl (by kernel_rfl) (by kernel_rfl) (by kernel_rfl) (fun _ _ _ h => h) (Or.inl ⟨by rfl, fun w hSw => ?_⟩) hS0 ?_
  · obtain ⟨x0, x1, x2⟩ := hSw; go_simp
  try simp only [Act.put, List.setIfInBounds_toArray, List.set_cons_zero, List.set_cons_succ, List.getElem_toArray, List.getElem_cons_zero, List.getElem_cons_succ]
  refine wpAnyH_take (i := 2) (oi := _) (v := .bool false) rfl (by kernel_rfl) (by kernel_rfl) (by kernel_rfl) (fun _ _ _ h => h) (Or.inl ⟨by rfl, fun w hSw => ?_⟩) hS0 ?_
  · obtain ⟨x0, x1, x2⟩ := hSw; go_simp
  try simp only [Act.put, List.setIfInBounds_toArray, List.set_cons_zero, List.set_cons_succ, List.getElem_toArray, List.getElem_cons_zero, List.getElem_cons_succ]
  refine wpAnyH_take (i := 3) (oi := _) (v := .bool false) rfl (by kernel_rfl) (by kernel_rfl) (by kernel_rfl) (fun _ _ _ h => h) (Or.inl ⟨by rfl, fun w hSw => ?_⟩) hS0 ?_
  · obtain ⟨x0, x1, x2⟩ := hSw; go_simp
  try simp only [Act.put, List.setIfInBounds_toArray, List.set_cons_zero, List.set_cons_succ, List.getElem_toArray, List.getElem_cons_zero, List.getElem_cons_succ]
  refine wpAnyH_take (i := 4) (oi := _) (v := .pointer (some ⟨Z, 0, none⟩)) rfl (by kernel_rfl) (by kernel_rfl) (by kernel_rfl) (fun _ _ _ h => h) (Or.inl ⟨by rfl, fun w hSw => ?_⟩) hS0 ?_
  · obtain ⟨x0, x1, x2⟩ := hSw; go_simp
  try simp only [Act.put, List.setIfInBounds_toArray, List.set_cons_zero, List.set_cons_succ, List.getElem_toArray, List.getElem_cons_zero, List.getElem_cons_succ]
  refine wpAnyH_take (i := 5) (oi := _) (v := .int .i64 a) rfl (by kernel_rfl) (by kernel_rfl) (by kernel_rfl) (fun _ _ _ h => h) (Or.inl ⟨by rfl, fun w hSw => ?_⟩) hS0 ?_
  · obtain ⟨x0, x1, x2⟩ := hSw; go_simp
  try simp only [Act.put, List.setIfInBounds_toArray, List.set_cons_zero, List.set_cons_succ, List.getElem_toArray, List.getElem_cons_zero, List.getElem_cons_succ]
  refine wpAnyH_take (i := 6) (oi := _) (v := .slice la n lc) rfl (by kernel_rfl) (by kernel_rfl) (by kernel_rfl) (fun _ _ _ h => h) (Or.inl ⟨by rfl, fun w hSw => ?_⟩) hS0 ?_
  · obtain ⟨x0, x1, x2⟩ := hSw; go_simp
  try simp only [Act.put, List.setIfInBounds_toArray, List.set_cons_zero, List.set_cons_succ, List.getElem_toArray, List.getElem_cons_zero, List.getElem_cons_succ]
  refine wpAnyH_take (i := 7) (oi := _) (v := .int .i64 n) rfl (by kernel_rfl) (by kernel_rfl) (by kernel_rfl) (fun _ _ _ h => h) (Or.inl ⟨by rfl, fun w hSw => ?_⟩) hS0 ?_
  · obtain ⟨x0, x1, x2⟩ := hSw; go_simp
  try simp only [Act.put, List.setIfInBounds_toArray, List.set_cons_zero, List.set_cons_succ, List.getElem_toArray, List.getElem_cons_zero, List.getElem_cons_succ]
  refine wpAnyH_take (i := 8) (oi := _) (v := .bool false) rfl (by kernel_rfl) (by kernel_rfl) (by kernel_rfl) (fun _ _ _ h => h) (Or.inl ⟨by rfl, fun w hSw => ?_⟩) hS0 ?_
  · obtain ⟨x0, x1, x2⟩ := hSw; go_simp
  try simp only [Act.put, List.setIfInBounds_toArray, List.set_cons_zero, List.set_cons_succ, List.getElem_toArray, List.getElem_cons_zero, List.getElem_cons_succ]
  refine wpAnyH_take (i := 9) (oi := _) (v := .bool false) rfl (by kernel_rfl) (by kernel_rfl) (by kernel_rfl) (fun _ _ _ h => h) (Or.inl ⟨by rfl, fun w hSw => ?_⟩) hS0 ?_
  · obtain ⟨x0, x1, x2⟩ := hSw; go_simp
  try simp only [Act.put, List.setIfInBounds_toArray, List.set_cons_zero, List.set_cons_succ, List.getElem_toArray, List.getElem_cons_zero, List.getElem_cons_succ]
  refine wpAnyH_take (i := 10) (oi := _) (v := .bool false) rfl (by kernel_rfl) (by kernel_rfl) (by kernel_rfl) (fun _ _ _ h => h) (Or.inl ⟨by rfl, fun w hSw => ?_⟩) hS0 ?_
  · obtain ⟨x0, x1, x2⟩ := hSw; go_simp
  try simp only [Act.put, List.setIfInBounds_toArray, List.set_cons_zero, List.set_cons_succ, List.getElem_toArray, List.getElem_cons_zero, List.getElem_cons_succ]
  refine wpAnyH_take (i := 11) (oi := _) (v := .pointer (some ⟨Z, 1, none⟩)) rfl (by kernel_rfl) (by kernel_rfl) (by kernel_rfl) (fun _ _ _ h => h) (Or.inl ⟨by rfl, fun w hSw => ?_⟩) hS0 ?_
  · obtain ⟨x0, x1, x2⟩ := hSw; go_simp
  try simp only [Act.put, List.setIfInBounds_toArray, List.set_cons_zero, List.set_cons_succ, List.getElem_toArray, List.getElem_cons_zero, List.getElem_cons_succ]
  refine wpAnyH_take (i := 12) (oi := _) (v := .slice oa k oc) rfl (by kernel_rfl) (by kernel_rfl) (by kernel_rfl) (fun _ _ _ h => h) (Or.inl ⟨by rfl, fun w hSw => ?_⟩) hS0 ?_
  · obtain ⟨x0, x1, x2⟩ := hSw; go_simp
  try simp only [Act.put, List.setIfInBounds_toArray, List.set_cons_zero, List.set_cons_succ, List.getElem_toArray, List.getElem_cons_zero, List.getElem_cons_succ]
  refine wpAnyH_take (i := 13) (oi := _) (v := .int .i64 k) rfl (by kernel_rfl) (by kernel_rfl) (by kernel_rfl) (fun _ _ _ h => h) (Or.inl ⟨by rfl, fun w hSw => ?_⟩) hS0 ?_
  · obtain ⟨x0, x1, x2⟩ := hSw; go_simp
  try simp only [Act.put, List.setIfInBounds_toArray, List.set_cons_zero, List.set_cons_succ, List.getElem_toArray, List.getElem_cons_zero, List.getElem_cons_succ]
  refine wpAnyH_take (i := 14) (oi := _) (v := .slice la n lc) rfl (by kernel_rfl) (by kernel_rfl) (by kernel_rfl) (fun _ _ _ h => h) (Or.inl ⟨by rfl, fun w hSw => ?_⟩) hS0 ?_
  · obtain ⟨x0, x1, x2⟩ := hSw; go_simp
  try simp only [Act.put, List.setIfInBounds_toArray, List.set_cons_zero, List.set_cons_succ, List.getElem_toArray, List.getElem_cons_zero, List.getElem_cons_succ]
  refine wpAnyH_take (i := 15) (oi := _) (v := .int .i64 n) rfl (by kernel_rfl) (by kernel_rfl) (by kernel_rfl) (fun _ _ _ h => h) (Or.inl ⟨by rfl, fun w hSw => ?_⟩) hS0 ?_
  · obtain ⟨x0, x1, x2⟩ := hSw; go_simp
  try simp only [Act.put, List.setIfInBounds_toArray, List.set_cons_zero, List.set_cons_succ, List.getElem_toArray, List.getElem_cons_zero, List.getElem_cons_succ]
  refine wpAnyH_take (i := 16) (oi := _) (v := .pointer (some ⟨Z, 0, none⟩)) rfl (by kernel_rfl) (by kernel_rfl) (by kernel_rfl) (fun _ _ _ h => h) (Or.inl ⟨by rfl, fun w hSw => ?_⟩) hS0 ?_
  · obtain ⟨x0, x1, x2⟩ := hSw; go_simp
  try simp only [Act.put, List.setIfInBounds_toArray, List.set_cons_zero, List.set_cons_succ, List.getElem_toArray, List.getElem_cons_zero, List.getElem_cons_succ]
  refine wpAnyH_take (i := 17) (oi := _) (v := .int .i64 a) rfl (by kernel_rfl) (by kernel_rfl) (by kernel_rfl) (fun _ _ _ h => h) (Or.inl ⟨by rfl, fun w hSw => ?_⟩) hS0 ?_
  · obtain ⟨x0, x1, x2⟩ := hSw; go_simp
  try simp only [Act.put, List.setIfInBounds_toArray, List.set_cons_zero, List.set_cons_succ, List.getElem_toArray, List.getElem_cons_zero, List.getElem_cons_succ]
  refine wpAnyH_take (i := 18) (oi := _) (v := .int .i64 d) rfl (by kernel_rfl) (by kernel_rfl) (by kernel_rfl) (fun _ _ _ h => h) (Or.inl ⟨by rfl, fun w hSw => ?_⟩) hS0 ?_
  · obtain ⟨x0, x1, x2⟩ := hSw; go_simp
  try simp only [Act.put, List.setIfInBounds_toArray, List.set_cons_zero, List.set_cons_succ, List.getElem_toArray, List.getElem_cons_zero, List.getElem_cons_succ]
  refine wpAnyH_take (i := 19) (oi := _) (v := .bool false) rfl (by kernel_rfl) (by kernel_rfl) (by kernel_rfl) (fun _ _ _ h => h) (Or.inl ⟨by rfl, fun w hSw => ?_⟩) hS0 ?_
  · obtain ⟨x0, x1, x2⟩ := hSw; go_simp
  try simp only [Act.put, List.setIfInBounds_toArray, List.set_cons_zero, List.set_cons_succ, List.getElem_toArray, List.getElem_cons_zero, List.getElem_cons_succ]
  refine wpAnyH_take (i := 20) (oi := _) (v := .bool false) rfl (by kernel_rfl) (by kernel_rfl) (by kernel_rfl) (fun _ _ _ h => h) (Or.inl ⟨by rfl, fun w hSw => ?_⟩) hS0 ?_
  · obtain ⟨x0, x1, x2⟩ := hSw; go_simp
  try simp only [Act.put, List.setIfInBounds_toArray, List.set_cons_zero, List.set_cons_succ, List.getElem_toArray, List.getElem_cons_zero, List.getElem_cons_succ]
  refine wpAnyH_take (i := 21) (oi := _) (v := .bool false) rfl (by kernel_rfl) (by kernel_rfl) (by kernel_rfl) (fun _ _ _ h => h) (Or.inl ⟨by rfl, fun w hSw => ?_⟩) hS0 ?_
  · obtain ⟨x0, x1, x2⟩ := hSw; go_simp
  try simp only [Act.put, List.setIfInBounds_toArray, List.set_cons_zero, List.set_cons_succ, List.getElem_toArray, List.getElem_cons_zero, List.getElem_cons_succ]
  refine wpAnyH_take (i := 22) (oi := _) (v := .slice la n lc) rfl (by kernel_rfl) (by kernel_rfl) (by kernel_rfl) (fun _ _ _ h => h) (Or.inl ⟨by rfl, fun w hSw => ?_⟩) hS0 ?_
  · obtain ⟨x0, x1, x2⟩ := hSw; go_simp
  try simp only [Act.put, List.setIfInBounds_toArray, List.set_cons_zero, List.set_cons_succ, List.getElem_toArray, List.getElem_cons_zero, List.getElem_cons_succ]
  refine wpAnyH_take (i := 23) (oi := _) (v := .pointer (some ⟨Z, 0, none⟩)) rfl (by kernel_rfl) (by kernel_rfl) (by kernel_rfl) (fun _ _ _ h => h) (Or.inl ⟨by rfl, fun w hSw => ?_⟩) hS0 ?_
  · obtain ⟨x0, x1, x2⟩ := hSw; go_simp
  try simp only [Act.put, List.setIfInBounds_toArray, List.set_cons_zero, List.set_cons_succ, List.getElem_toArray, List.getElem_cons_zero, List.getElem_cons_succ]
  refine wpAnyH_take (i := 24) (oi := _) (v := .int .i64 a) rfl (by kernel_rfl) (by kernel_rfl) (by kernel_rfl) (fun _ _ _ h => h) (Or.inl ⟨by rfl, fun w hSw => ?_⟩) hS0 ?_
  · obtain ⟨x0, x1, x2⟩ := hSw; go_simp
  try simp only [Act.put, List.setIfInBounds_toArray, List.set_cons_zero, List.set_cons_succ, List.getElem_toArray, List.getElem_cons_zero, List.getElem_cons_succ]
  refine wpAnyH_take (i := 25) (oi := _) (v := .pointer (some ⟨Z, 0, none⟩)) rfl (by kernel_rfl) (by kernel_rfl) (by kernel_rfl) (fun _ _ _ h => h) (Or.inl ⟨by rfl, fun w hSw => ?_⟩) hS0 ?_
  · obtain ⟨x0, x1, x2⟩ := hSw; go_simp
  try simp only [Act.put, List.setIfInBounds_toArray, List.set_cons_zero, List.set_cons_succ, List.getElem_toArray, List.getElem_cons_zero, List.getElem_cons_succ]
  refine wpAnyH_take (i := 26) (oi := _) (v := .int .i64 a) rfl (by kernel_rfl) (by kernel_rfl) (by kernel_rfl) (fun _ _ _ h => h) (Or.inl ⟨by rfl, fun w hSw => ?_⟩) hS0 ?_
  · obtain ⟨x0, x1, x2⟩ := hSw; go_simp
  try simp only [Act.put, List.setIfInBounds_toArray, List.set_cons_zero, List.set_cons_succ, List.getElem_toArray, List.getElem_cons_zero, List.getElem_cons_succ]
  refine wpAnyH_take (i := 27) (oi := _) (v := .pointer (some ⟨Z, 1, none⟩)) rfl (by kernel_rfl) (by kernel_rfl) (by kernel_rfl) (fun _ _ _ h => h) (Or.inl ⟨by rfl, fun w hSw => ?_⟩) hS0 ?_
  · obtain ⟨x0, x1, x2⟩ := hSw; go_simp
  try simp only [Act.put, List.setIfInBounds_toArray, List.set_cons_zero, List.set_cons_succ, List.getElem_toArray, List.getElem_cons_zero, List.getElem_cons_succ]
  refine wpAnyH_take (i := 28) (oi := _) (v := .slice oa k oc) rfl (by kernel_rfl) (by kernel_rfl) (by kernel_rfl) (fun _ _ _ h => h) (Or.inl ⟨by rfl, fun w hSw => ?_⟩) hS0 ?_
  · obtain ⟨x0, x1, x2⟩ := hSw; go_simp
  try simp only [Act.put, List.setIfInBounds_toArray, List.set_cons_zero, List.set_cons_succ, List.getElem_toArray, List.getElem_cons_zero, List.getElem_cons_succ]
  refine wpAnyH_take (i := 29) (oi := _) (v := .int .i64 k) rfl (by kernel_rfl) (by kernel_rfl) (by kernel_rfl) (fun _ _ _ h => h) (Or.inl ⟨by rfl, fun w hSw => ?_⟩) hS0 ?_
  · obtain ⟨x0, x1, x2⟩ := hSw; go_simp
  try simp only [Act.put, List.setIfInBounds_toArray, List.set_cons_zero, List.set_cons_succ, List.getElem_toArray, List.getElem_cons_zero, List.getElem_cons_succ]
  refine wpAnyH_take (i := 30) (oi := _) (v := .int .i64 e) rfl (by kernel_rfl) (by kernel_rfl) (by kernel_rfl) (fun _ _ _ h => h) (Or.inl ⟨by rfl, fun w hSw => ?_⟩) hS0 ?_
  · obtain ⟨x0, x1, x2⟩ := hSw; go_simp
  try simp only [Act.put, List.setIfInBounds_toArray, List.set_cons_zero, List.set_cons_succ, List.getElem_toArray, List.getElem_cons_zero, List.getElem_cons_succ]
  refine wpAnyH_take (i := 31) (oi := _) (v := .slice la2 k (lc - a)) rfl (by kernel_rfl) (by kernel_rfl) (by kernel_rfl) (fun _ _ _ h => h) (Or.inl ⟨by rfl, fun w hSw => ?_⟩) hS0 ?_
  · obtain ⟨x0, x1, x2⟩ := hSw; go_simp
  try simp only [Act.put, List.setIfInBounds_toArray, List.set_cons_zero, List.set_cons_succ, List.getElem_toArray, List.getElem_cons_zero, List.getElem_cons_succ]
  refine wpAnyH_take (i := 32) (oi := _) (v := .pointer (some ⟨Z, 1, none⟩)) rfl (by kernel_rfl) (by kernel_rfl) (by kernel_rfl) (fun _ _ _ h => h) (Or.inl ⟨by rfl, fun w hSw => ?_⟩) hS0 ?_
  · obtain ⟨x0, x1, x2⟩ := hSw; go_simp
  try simp only [Act.put, List.setIfInBounds_toArray, List.set_cons_zero, List.set_cons_succ, List.getElem_toArray, List.getElem_cons_zero, List.getElem_cons_succ]
  refine wpAnyH_take (i := 33) (oi := _) (v := .slice oa k oc) rfl (by kernel_rfl) (by kernel_rfl) (by kernel_rfl) (fun _ _ _ h => h) (Or.inl ⟨by rfl, fun w hSw => ?_⟩) hS0 ?_
  · obtain ⟨x0, x1, x2⟩ := hSw; go_simp
  try simp only [Act.put, List.setIfInBounds_toArray, List.set_cons_zero, List.set_cons_succ, List.getElem_toArray, List.getElem_cons_zero, List.getElem_cons_succ]
  refine wpAnyH_ready (rs := [34]) (by kernel_rfl) (by simp) (AllReadyH.cons (o := _) rfl (fun K' hK => ?_) AllReadyH.nil)
  simp only [List.getElem_toArray, List.getElem_cons_zero, List.getElem_cons_succ]
  rw [if_pos (by rfl)]
  go_simp
  refine (Cs.out).mono ?_
  rintro e w2 ⟨rfl, h2⟩
  refine hK.out _ _ ⟨q0 h2, q1 h2, q2 h2⟩ (fun hS1 => ?_)
  clear hK K' hS0
  try simp only [Act.put, List.setIfInBounds_toArray, List.set_cons_zero, List.set_cons_succ, List.getElem_toArray, List.getElem_cons_zero, List.getElem_cons_succ]
  refine wpAnyH_take (i := 35) (oi := _) (v := .bool false) rfl (by kernel_rfl) (by kernel_rfl) (by kernel_rfl) (fun _ _ _ h => h) (Or.inl ⟨by rfl, fun w hSw => ?_⟩) hS1 ?_
  · obtain ⟨x0, x1, x2⟩ := hSw; go_simp
  try simp only [Act.put, List.setIfInBounds_toArray, List.set_cons_zero, List.set_cons_succ, List.getElem_toArray, List.getElem_cons_zero, List.getElem_cons_succ]
  refine wpAnyH_take (i := 36) (oi := _) (v := .bool false) rfl (by kernel_rfl) (by kernel_rfl) (by kernel_rfl) (fun _ _ _ h => h) (Or.inl ⟨by rfl, fun w hSw => ?_⟩) hS1 ?_
  · obtain ⟨x0, x1, x2⟩ := hSw; go_simp
  try simp only [Act.put, List.setIfInBounds_toArray, List.set_cons_zero, List.set_cons_succ, List.getElem_toArray, List.getElem_cons_zero, List.getElem_cons_succ]
  refine wpAnyH_take (i := 37) (oi := _) (v := .bool false) rfl (by kernel_rfl) (by kernel_rfl) (by kernel_rfl) (fun _ _ _ h => h) (Or.inl ⟨by rfl, fun w hSw => ?_⟩) hS1 ?_
  · obtain ⟨x0, x1, x2⟩ := hSw; go_simp
  try simp only [Act.put, List.setIfInBounds_toArray, List.set_cons_zero, List.set_cons_succ, List.getElem_toArray, List.getElem_cons_zero, List.getElem_cons_succ]
  refine wpAnyH_take (i := 38) (oi := _) (v := .slice la n lc) rfl (by kernel_rfl) (by kernel_rfl) (by kernel_rfl) (fun _ _ _ h => h) (Or.inl ⟨by rfl, fun w hSw => ?_⟩) hS1 ?_
  · obtain ⟨x0, x1, x2⟩ := hSw; go_simp
  try simp only [Act.put, List.setIfInBounds_toArray, List.set_cons_zero, List.set_cons_succ, List.getElem_toArray, List.getElem_cons_zero, List.getElem_cons_succ]
  refine wpAnyH_take (i := 39) (oi := _) (v := .int .i64 n) rfl (by kernel_rfl) (by kernel_rfl) (by kernel_rfl) (fun _ _ _ h => h) (Or.inl ⟨by rfl, fun w hSw => ?_⟩) hS1 ?_
  · obtain ⟨x0, x1, x2⟩ := hSw; go_simp
  try simp only [Act.put, List.setIfInBounds_toArray, List.set_cons_zero, List.set_cons_succ, List.getElem_toArray, List.getElem_cons_zero, List.getElem_cons_succ]
  refine wpAnyH_take (i := 40) (oi := _) (v := .pointer (some ⟨Z, 1, none⟩)) rfl (by kernel_rfl) (by kernel_rfl) (by kernel_rfl) (fun _ _ _ h => h) (Or.inl ⟨by rfl, fun w hSw => ?_⟩) hS1 ?_
  · obtain ⟨x0, x1, x2⟩ := hSw; go_simp
  try simp only [Act.put, List.setIfInBounds_toArray, List.set_cons_zero, List.set_cons_succ, List.getElem_toArray, List.getElem_cons_zero, List.getElem_cons_succ]
  refine wpAnyH_take (i := 41) (oi := _) (v := .slice oa k oc) rfl (by kernel_rfl) (by kernel_rfl) (by kernel_rfl) (fun _ _ _ h => h) (Or.inl ⟨by rfl, fun w hSw => ?_⟩) hS1 ?_
  · obtain ⟨x0, x1, x2⟩ := hSw; go_simp
  try simp only [Act.put, List.setIfInBounds_toArray, List.set_cons_zero, List.set_cons_succ, List.getElem_toArray, List.getElem_cons_zero, List.getElem_cons_succ]
  refine wpAnyH_take (i := 42) (oi := _) (v := .int .i64 k) rfl (by kernel_rfl) (by kernel_rfl) (by kernel_rfl) (fun _ _ _ h => h) (Or.inl ⟨by rfl, fun w hSw => ?_⟩) hS1 ?_
  · obtain ⟨x0, x1, x2⟩ := hSw; go_simp
  try simp only [Act.put, List.setIfInBounds_toArray, List.set_cons_zero, List.set_cons_succ, List.getElem_toArray, List.getElem_cons_zero, List.getElem_cons_succ]
  refine wpAnyH_take (i := 43) (oi := _) (v := .int .i64 f) rfl (by kernel_rfl) (by kernel_rfl) (by kernel_rfl) (fun _ _ _ h => h) (Or.inl ⟨by rfl, fun w hSw => ?_⟩) hS1 ?_
  · obtain ⟨x0, x1, x2⟩ := hSw; go_simp
  try simp only [Act.put, List.setIfInBounds_toArray, List.set_cons_zero, List.set_cons_succ, List.getElem_toArray, List.getElem_cons_zero, List.getElem_cons_succ]
  refine wpAnyH_take (i := 44) (oi := _) (v := .pointer (some ⟨Z, 2, none⟩)) rfl (by kernel_rfl) (by kernel_rfl) (by kernel_rfl) (fun _ _ _ h => h) (Or.inl ⟨by rfl, fun w hSw => ?_⟩) hS1 ?_
  · obtain ⟨x0, x1, x2⟩ := hSw; go_simp
  try simp only [Act.put, List.setIfInBounds_toArray, List.set_cons_zero, List.set_cons_succ, List.getElem_toArray, List.getElem_cons_zero, List.getElem_cons_succ]
  refine wpAnyH_take (i := 45) (oi := _) (v := .slice na m nc) rfl (by kernel_rfl) (by kernel_rfl) (by kernel_rfl) (fun _ _ _ h => h) (Or.inl ⟨by rfl, fun w hSw => ?_⟩) hS1 ?_
  · obtain ⟨x0, x1, x2⟩ := hSw; go_simp
  try simp only [Act.put, List.setIfInBounds_toArray, List.set_cons_zero, List.set_cons_succ, List.getElem_toArray, List.getElem_cons_zero, List.getElem_cons_succ]
  refine wpAnyH_take (i := 46) (oi := _) (v := .int .i64 m) rfl (by kernel_rfl) (by kernel_rfl) (by kernel_rfl) (fun _ _ _ h => h) (Or.inl ⟨by rfl, fun w hSw => ?_⟩) hS1 ?_
  · obtain ⟨x0, x1, x2⟩ := hSw; go_simp
  try simp only [Act.put, List.setIfInBounds_toArray, List.set_cons_zero, List.set_cons_succ, List.getElem_toArray, List.getElem_cons_zero, List.getElem_cons_succ]
  refine wpAnyH_take (i := 47) (oi := _) (v := .int .i64 g) rfl (by kernel_rfl) (by kernel_rfl) (by kernel_rfl) (fun _ _ _ h => h) (Or.inl ⟨by rfl, fun w hSw => ?_⟩) hS1 ?_
  · obtain ⟨x0, x1, x2⟩ := hSw; go_simp
  try simp only [Act.put, List.setIfInBounds_toArray, List.set_cons_zero, List.set_cons_succ, List.getElem_toArray, List.getElem_cons_zero, List.getElem_cons_succ]
  refine wpAnyH_take (i := 48) (oi := _) (v := .bool false) rfl (by kernel_rfl) (by kernel_rfl) (by kernel_rfl) (fun _ _ _ h => h) (Or.inl ⟨by rfl, fun w hSw => ?_⟩) hS1 ?_
  · obtain ⟨x0, x1, x2⟩ := hSw; go_simp
  try simp only [Act.put, List.setIfInBounds_toArray, List.set_cons_zero, List.set_cons_succ, List.getElem_toArray, List.getElem_cons_zero, List.getElem_cons_succ]
  refine wpAnyH_take (i := 49) (oi := _) (v := .bool false) rfl (by kernel_rfl) (by kernel_rfl) (by kernel_rfl) (fun _ _ _ h => h) (Or.inl ⟨by rfl, fun w hSw => ?_⟩) hS1 ?_
  · obtain ⟨x0, x1, x2⟩ := hSw; go_simp
  try simp only [Act.put, List.setIfInBounds_toArray, List.set_cons_zero, List.set_cons_succ, List.getElem_toArray, List.getElem_cons_zero, List.getElem_cons_succ]
  refine wpAnyH_done (by kernel_rfl) ?_ _
  try dsimp only [Whole]
  clear k0 k1 k2 Cs
  obtain ⟨s1, w3, hr1, h3⟩ := lapp (s := .slice none 0 0) (n := 0) (A := []) (m := a) (B := L.take a) rfl (by rw [List.length_take, ← Hn.out]; omega) (h2.rowNil 9 1) ((rdl_pre Hn.out HL.out han).cons) (by omega)
  rw [List.nil_append] at h3
  obtain ⟨s2, w4, hr2, h4⟩ := lapp (m := m) (B := N) rfl Hm.out h3.drew (HN.out.cons) (by rw [List.length_take]; omega)
  obtain ⟨s3, w5, hr3, h5⟩ := lapp (m := n - e) (B := L.drop e) rfl (by rw [List.length_drop, ← Hn.out]) h4 ((rdl_post Hn.out HL.out hen hla3).cons) (by rw [List.length_append, List.length_take, ← Hm.out]; omega)
  have e5 : L.take a ++ N ++ L.drop e = repL L a k N := by rw [repL, He.out]
  rw [e5] at h5
  have H5 := Lib.hid h5
  go_upto_region 4 with (fail)
  refine wp_region_held_drew (S := (fun w' => w'.cell? ⟨Z, 0, none⟩ = some (.int .i64 a) ∧ w'.cell? ⟨Z, 1, none⟩ = some (.slice oa k oc) ∧ w'.cell? ⟨Z, 2, none⟩ = some (.slice na m nc))) (by kernel_rfl) ⟨q0 h3.drew.p1, q1 h3.drew.p1, q2 h3.drew.p1⟩ (fun hS0 => ?_)
  refine wpAnyH_take (i := 0) (oi := _) (v := s1) rfl (by kernel_rfl) (by kernel_rfl) (by kernel_rfl) (fun _ _ _ h => h) (Or.inl ⟨by rfl, fun w hSw => ?_⟩) hS0 ?_
  · obtain ⟨x0, x1, x2⟩ := hSw; go_simp
  try simp only [Act.put, List.setIfInBounds_toArray, List.set_cons_zero, List.set_cons_succ, List.getElem_toArray, List.getElem_cons_zero, List.getElem_cons_succ]
  refine wpAnyH_take (i := 1) (oi := _) (v := .pointer (some ⟨Z, 2, none⟩)) rfl (by kernel_rfl) (by kernel_rfl) (by kernel_rfl) (fun _ _ _ h => h) (Or.inl ⟨by rfl, fun w hSw => ?_⟩) hS0 ?_
  · obtain ⟨x0, x1, x2⟩ := hSw; go_simp
  try simp only [Act.put, List.setIfInBounds_toArray, List.set_cons_zero, List.set_cons_succ, List.getElem_toArray, List.getElem_cons_zero, List.getElem_cons_succ]
  refine wpAnyH_take (i := 2) (oi := _) (v := .slice na m nc) rfl (by kernel_rfl) (by kernel_rfl) (by kernel_rfl) (fun _ _ _ h => h) (Or.inl ⟨by rfl, fun w hSw => ?_⟩) hS0 ?_
  · obtain ⟨x0, x1, x2⟩ := hSw; go_simp
  try simp only [Act.put, List.setIfInBounds_toArray, List.set_cons_zero, List.set_cons_succ, List.getElem_toArray, List.getElem_cons_zero, List.getElem_cons_succ]
  refine wpAnyH_take (i := 4) (oi := _) (v := .slice la n lc) rfl (by kernel_rfl) (by kernel_rfl) (by kernel_rfl) (fun _ _ _ h => h) (Or.inl ⟨by rfl, fun w hSw => ?_⟩) hS0 ?_
  · obtain ⟨x0, x1, x2⟩ := hSw; go_simp
  try simp only [Act.put, List.setIfInBounds_toArray, List.set_cons_zero, List.set_cons_succ, List.getElem_toArray, List.getElem_cons_zero, List.getElem_cons_succ]
  refine wpAnyH_take (i := 5) (oi := _) (v := .pointer (some ⟨Z, 0, none⟩)) rfl (by kernel_rfl) (by kernel_rfl) (by kernel_rfl) (fun _ _ _ h => h) (Or.inl ⟨by rfl, fun w hSw => ?_⟩) hS0 ?_
  · obtain ⟨x0, x1, x2⟩ := hSw; go_simp
  try simp only [Act.put, List.setIfInBounds_toArray, List.set_cons_zero, List.set_cons_succ, List.getElem_toArray, List.getElem_cons_zero, List.getElem_cons_succ]
  refine wpAnyH_take (i := 6) (oi := _) (v := .int .i64 a) rfl (by kernel_rfl) (by kernel_rfl) (by kernel_rfl) (fun _ _ _ h => h) (Or.inl ⟨by rfl, fun w hSw => ?_⟩) hS0 ?_
  · obtain ⟨x0, x1, x2⟩ := hSw; go_simp
  try simp only [Act.put, List.setIfInBounds_toArray, List.set_cons_zero, List.set_cons_succ, List.getElem_toArray, List.getElem_cons_zero, List.getElem_cons_succ]
  refine wpAnyH_take (i := 7) (oi := _) (v := .pointer (some ⟨Z, 1, none⟩)) rfl (by kernel_rfl) (by kernel_rfl) (by kernel_rfl) (fun _ _ _ h => h) (Or.inl ⟨by rfl, fun w hSw => ?_⟩) hS0 ?_
  · obtain ⟨x0, x1, x2⟩ := hSw; go_simp
  try simp only [Act.put, List.setIfInBounds_toArray, List.set_cons_zero, List.set_cons_succ, List.getElem_toArray, List.getElem_cons_zero, List.getElem_cons_succ]
  refine wpAnyH_take (i := 8) (oi := _) (v := .slice oa k oc) rfl (by kernel_rfl) (by kernel_rfl) (by kernel_rfl) (fun _ _ _ h => h) (Or.inl ⟨by rfl, fun w hSw => ?_⟩) hS0 ?_
  · obtain ⟨x0, x1, x2⟩ := hSw; go_simp
  try simp only [Act.put, List.setIfInBounds_toArray, List.set_cons_zero, List.set_cons_succ, List.getElem_toArray, List.getElem_cons_zero, List.getElem_cons_succ]
  refine wpAnyH_take (i := 9) (oi := _) (v := .int .i64 k) rfl (by kernel_rfl) (by kernel_rfl) (by kernel_rfl) (fun _ _ _ h => h) (Or.inl ⟨by rfl, fun w hSw => ?_⟩) hS0 ?_
  · obtain ⟨x0, x1, x2⟩ := hSw; go_simp
  try simp only [Act.put, List.setIfInBounds_toArray, List.set_cons_zero, List.set_cons_succ, List.getElem_toArray, List.getElem_cons_zero, List.getElem_cons_succ]
  refine wpAnyH_take (i := 10) (oi := _) (v := .int .i64 e) rfl (by kernel_rfl) (by kernel_rfl) (by kernel_rfl) (fun _ _ _ h => h) (Or.inl ⟨by rfl, fun w hSw => ?_⟩) hS0 ?_
  · obtain ⟨x0, x1, x2⟩ := hSw; go_simp
  try simp only [Act.put, List.setIfInBounds_toArray, List.set_cons_zero, List.set_cons_succ, List.getElem_toArray, List.getElem_cons_zero, List.getElem_cons_succ]
  refine wpAnyH_take (i := 11) (oi := _) (v := .slice la3 (n - e) (lc - e)) rfl (by kernel_rfl) (by kernel_rfl) (by kernel_rfl) (fun _ _ _ h => h) (Or.inl ⟨by rfl, fun w hSw => ?_⟩) hS0 ?_
  · obtain ⟨x0, x1, x2⟩ := hSw; go_simp
  try simp only [Act.put, List.setIfInBounds_toArray, List.set_cons_zero, List.set_cons_succ, List.getElem_toArray, List.getElem_cons_zero, List.getElem_cons_succ]
  refine wpAnyH_ready (rs := [3]) (by kernel_rfl) (by simp) (AllReadyH.cons (o := _) rfl (fun K' hK => ?_) AllReadyH.nil)
  simp only [List.getElem_toArray, List.getElem_cons_zero, List.getElem_cons_succ]
  rw [if_pos (by rfl)]
  refine wp_append_run (.tmp 62) (.tmp 64) 22 22 s1 (.slice na m nc) (hr2 22) rfl rfl rfl ?_
  refine hK.out _ _ ⟨q0 h4.p1, q1 h4.p1, q2 h4.p1⟩ (fun hS1 => ?_)
  clear hK K' hS0
  try simp only [Act.put, List.setIfInBounds_toArray, List.set_cons_zero, List.set_cons_succ, List.getElem_toArray, List.getElem_cons_zero, List.getElem_cons_succ]
  refine wpAnyH_ready (rs := [12]) (by kernel_rfl) (by simp) (AllReadyH.cons (o := _) rfl (fun K' hK => ?_) AllReadyH.nil)
  simp only [List.getElem_toArray, List.getElem_cons_zero, List.getElem_cons_succ]
  rw [if_pos (by rfl)]
  refine wp_append_run (.tmp 65) (.tmp 73) 22 22 s2 (.slice la3 (n - e) (lc - e)) (hr3 22) rfl rfl rfl ?_
  refine hK.out _ _ ⟨q0 h5.p1, q1 h5.p1, q2 h5.p1⟩ (fun hS2 => ?_)
  clear hK K' hS1
  try simp only [Act.put, List.setIfInBounds_toArray, List.set_cons_zero, List.set_cons_succ, List.getElem_toArray, List.getElem_cons_zero, List.getElem_cons_succ]
  refine wpAnyH_take (i := 13) (oi := _) (v := s3) rfl (by kernel_rfl) (by kernel_rfl) (by kernel_rfl) (fun _ _ _ h => h) (Or.inl ⟨by rfl, fun w hSw => ?_⟩) hS2 ?_
  · obtain ⟨x0, x1, x2⟩ := hSw; go_simp
  try simp only [Act.put, List.setIfInBounds_toArray, List.set_cons_zero, List.set_cons_succ, List.getElem_toArray, List.getElem_cons_zero, List.getElem_cons_succ]
  refine wpAnyH_take (i := 14) (oi := _) (v := .bool true) rfl (by kernel_rfl) (by kernel_rfl) (by kernel_rfl) (fun _ _ _ h => h) (Or.inl ⟨by rfl, fun w hSw => ?_⟩) hS2 ?_
  · obtain ⟨x0, x1, x2⟩ := hSw; go_simp
  try simp only [Act.put, List.setIfInBounds_toArray, List.set_cons_zero, List.set_cons_succ, List.getElem_toArray, List.getElem_cons_zero, List.getElem_cons_succ]
  refine wpAnyH_done (by kernel_rfl) ?_ _
  try dsimp only [Whole]
  clear hr1 hr2 hr3 h3 h4 h5 h2
  go_wp2_with fail
  go_ret2
  exact ⟨_, rfl, H5.out.p1.drop⟩
set_option maxHeartbeats 4000000 in
theorem rone_no {la oa na : Option Addr} {n lc a k oc m nc : Nat} {L N : Ls} (hn : n = L.length) (hm : m = N.length) (hak : a + k ≤ n) (hpos : n - k + m = 0) (hn1 : n ≤ 10000) (hm1 : m ≤ 10000) (H : Owns w0 w R) (hl : RdL w0 R (.slice la n lc) L) (ho : RdL w0 R (.slice oa k oc) ((L.drop a).take k)) (hN : RdL w0 R (.slice na m nc) N) :
    Calls Tryz.prog 36 #[.slice la n lc, .agg #[.int .i64 a, .slice oa k oc, .slice na m nc]] w (Ret (.tuple #[.slice none 0 0, .bool false]) w0 R) := by
  have h1 := H.alloc #[.int .i64 a, .slice oa k oc, .slice na m nc] 42
  obtain ⟨Z, hZ⟩ : ∃ Z, Z = w.heap.size := ⟨_, rfl⟩
  rw [← hZ] at h1
  have hkc : n ≤ lc := by have h2 := hl w H; rw [← hn] at h2; exact h2.capLe
  obtain ⟨d, hd⟩ : ∃ d, d = n - a := ⟨_, rfl⟩
  obtain ⟨e, he⟩ : ∃ e, e = a + k := ⟨_, rfl⟩
  obtain ⟨f, hf⟩ : ∃ f, f = n - k := ⟨_, rfl⟩
  obtain ⟨g, hg⟩ : ∃ g, g = f + m := ⟨_, rfl⟩
  have wd : IntKind.i64.wrap ((n : Int) - a) = (d : Int) := by rw [IntKind.wrap_i64]; omega
  have we : IntKind.i64.wrap ((a : Int) + k) = (e : Int) := by rw [IntKind.wrap_i64]; omega
  have wf : IntKind.i64.wrap ((n : Int) - k) = (f : Int) := by rw [IntKind.wrap_i64]; omega
  have wg : IntKind.i64.wrap ((f : Int) + m) = (g : Int) := by rw [IntKind.wrap_i64]; omega
  have han : a ≤ n := by omega
  have hkd : k ≤ d := by omega
  have hen : e ≤ n := by omega
  have hae : a ≤ e := by omega
  have hea : e - a = k := by omega
  have hel : e ≤ lc := by omega
  have hal : a ≤ lc := by omega
  have hg0 : ((g : Int) == 0) = true := beq_iff_eq.2 (by omega)
  obtain ⟨la2, hla2⟩ : ∃ la2, (if lc = a then la else Option.map (fun x : Addr => x.add a) la) = la2 := ⟨_, rfl⟩
  obtain ⟨la3, hla3⟩ : ∃ la3, (if lc = e then la else Option.map (fun x : Addr => x.add e) la) = la3 := ⟨_, rfl⟩
  have hl1 : RdL w0 (Asrt.obj Z (.cells #[.int .i64 a, .slice oa k oc, .slice na m nc] 42 (0, 0)) :: R) (.slice la2 k (lc - a)) ((L.drop a).take k) := by
    have h2 := rdl_post hn hl han hla2
    have h3 := rdl_pre (n := n - a) (by rw [List.length_drop, hn]) h2 (a := k) (by omega)
    exact h3.cons
  have k0 := h1.cell (j := 0) rfl
  have k1 := h1.cell (j := 1) rfl
  have k2 := h1.cell (j := 2) rfl
  have q0 : ∀ {w2 : World} {S : List Asrt}, Owns w0 w2 (Asrt.obj Z (.cells #[.int .i64 a, .slice oa k oc, .slice na m nc] 42 (0, 0)) :: S) → w2.cell? ⟨Z, 0, none⟩ = some (.int .i64 a) := fun h => h.cell (j := 0) rfl
  have q1 : ∀ {w2 : World} {S : List Asrt}, Owns w0 w2 (Asrt.obj Z (.cells #[.int .i64 a, .slice oa k oc, .slice na m nc] 42 (0, 0)) :: S) → w2.cell? ⟨Z, 1, none⟩ = some (.slice oa k oc) := fun h => h.cell (j := 1) rfl
  have q2 : ∀ {w2 : World} {S : List Asrt}, Owns w0 w2 (Asrt.obj Z (.cells #[.int .i64 a, .slice oa k oc, .slice na m nc] 42 (0, 0)) :: S) → w2.cell? ⟨Z, 2, none⟩ = some (.slice na m nc) := fun h => h.cell (j := 2) rfl
  have Cs := Lib.hid (hsame h1.drew hl1 ho.cons)
  have HL := Lib.hid hl
  have HN := Lib.hid hN
  have Hn := Lib.hid hn
  have Hm := Lib.hid hm
  have HZ := Lib.hid hZ
  have Hd := Lib.hid hd
  have He := Lib.hid he
  have Hf := Lib.hid hf
  have Hg := Lib.hid hg
  clear H h1 hl ho hN hn hm hZ hl1 hd he hf hg
  go_enter Tryz.func36, Tryz.ntmps36
  go_upto_region 1 with (fail)
  rw [← HZ.out]
  refine wp_region_held_drew (S := (fun w' => w'.cell? ⟨Z, 0, none⟩ = some (.int .i64 a) ∧ w'.cell? ⟨Z, 1, none⟩ = some (.slice oa k oc) ∧ w'.cell? ⟨Z, 2, none⟩ = some (.slice na m nc))) (by kernel_rfl) ⟨k0, k1, k2⟩ (fun hS0 => ?_)
  refine wpAnyH_take (i := 0) (oi := _) (v := .pointer (some ⟨Z, 0, none⟩)) rfl (by kernel_rfl) (by kernel_rfl) (by kernel_rfl) (fun _ _ _ h => h) (Or.inl ⟨by rfl, fun w hSw => ?_⟩) hS0 ?_
  · obtain ⟨x0, x1, x2⟩ := hSw; go_simp
  try simp only [Act.put, List.setIfInBounds_toArray, List.set_cons_zero, List.set_cons_succ, List.getElem_toArray, List.getElem_cons_zero, List.getElem_cons_succ]
  refine wpAnyH_take (i := 1) (oi := _) (v := .int .i64 a) rfl (by kernel_rfl) (by kernel_rfl) (by kernel_rfl) (fun _ _ _ h => h) (Or.inl ⟨by rfl, fun w hSw => ?_⟩) hS0 ?_
  · obtain ⟨x0, x1, x2⟩ := hSw; go_simp
  try simp only [Act.put, List.setIfInBounds_toArray, List.set_cons_zero, List.set_cons_succ, List.getElem_toArray, List.getElem_cons_zero, List.getElem_cons_succ]
  refine wpAnyH_take (i := 2) (oi := _) (v := .bool false) rfl (by kernel_rfl) (by kernel_rfl) (by kernel_rfl) (fun _ _ _ h => h) (Or.inl ⟨by rfl, fun w hSw => ?_⟩) hS0 ?_
  · obtain ⟨x0, x1, x2⟩ := hSw; go_simp
  try simp only [Act.put, List.setIfInBounds_toArray, List.set_cons_zero, List.set_cons_succ, List.getElem_toArray, List.getElem_cons_zero, List.getElem_cons_succ]
  refine wpAnyH_take (i := 3) (oi := _) (v := .bool false) rfl (by kernel_rfl) (by kernel_rfl) (by kernel_rfl) (fun _ _ _ h => h) (Or.inl ⟨by rfl, fun w hSw => ?_⟩) hS0 ?_
  · obtain ⟨x0, x1, x2⟩ := hSw; go_simp
  try simp only [Act.put, List.setIfInBounds_toArray, List.set_cons_zero, List.set_cons_succ, List.getElem_toArray, List.getElem_cons_zero, List.getElem_cons_succ]
  refine wpAnyH_take (i := 4) (oi := _) (v := .pointer (some ⟨Z, 0, none⟩)) rfl (by kernel_rfl) (by kernel_rfl) (by kernel_rfl) (fun _ _ _ h => h) (Or.inl ⟨by rfl, fun w hSw => ?_⟩) hS0 ?_
  · obtain ⟨x0, x1, x2⟩ := hSw; go_simp
  try simp only [Act.put, List.setIfInBounds_toArray, List.set_cons_zero, List.set_cons_succ, List.getElem_toArray, List.getElem_cons_zero, List.getElem_cons_succ]
  refine wpAnyH_take (i := 5) (oi := _) (v := .int .i64 a) rfl (by kernel_rfl) (by kernel_rfl) (by kernel_rfl) (fun _ _ _ h => h) (Or.inl ⟨by rfl, fun w hSw => ?_⟩) hS0 ?_
  · obtain ⟨x0, x1, x2⟩ := hSw; go_simp
  try simp only [Act.put, List.setIfInBounds_toArray, List.set_cons_zero, List.set_cons_succ, List.getElem_toArray, List.getElem_cons_zero, List.getElem_cons_succ]
  refine wpAnyH_take (i := 6) (oi := _) (v := .slice la n lc) rfl (by kernel_rfl) (by kernel_rfl) (by kernel_rfl) (fun _ _ _ h => h) (Or.inl ⟨by rfl, fun w hSw => ?_⟩) hS0 ?_
  · obtain ⟨x0, x1, x2⟩ := hSw; go_simp
  try simp only [Act.put, List.setIfInBounds_toArray, List.set_cons_zero, List.set_cons_succ, List.getElem_toArray, List.getElem_cons_zero, List.getElem_cons_succ]
  refine wpAnyH_take (i := 7) (oi := _) (v := .int .i64 n) rfl (by kernel_rfl) (by kernel_rfl) (by kernel_rfl) (fun _ _ _ h => h) (Or.inl ⟨by rfl, fun w hSw => ?_⟩) hS0 ?_
  · obtain ⟨x0, x1, x2⟩ := hSw; go_simp
  try simp only [Act.put, List.setIfInBounds_toArray, List.set_cons_zero, List.set_cons_succ, List.getElem_toArray, List.getElem_cons_zero, List.getElem_cons_succ]
  refine wpAnyH_take (i := 8) (oi := _) (v := .bool false) rfl (by kernel_rfl) (by kernel_rfl) (by kernel_rfl) (fun _ _ _ h => h) (Or.inl ⟨by rfl, fun w hSw => ?_⟩) hS0 ?_
  · obtain ⟨x0, x1, x2⟩ := hSw; go_simp
  try simp only [Act.put, List.setIfInBounds_toArray, List.set_cons_zero, List.set_cons_succ, List.getElem_toArray, List.getElem_cons_zero, List.getElem_cons_succ]
  refine wpAnyH_take (i := 9) (oi := _) (v := .bool false) rfl (by kernel_rfl) (by kernel_rfl) (by kernel_rfl) (fun _ _ _ h => h) (Or.inl ⟨by rfl, fun w hSw => ?_⟩) hS0 ?_
  · obtain ⟨x0, x1, x2⟩ := hSw; go_simp
  try simp only [Act.put, List.setIfInBounds_toArray, List.set_cons_zero, List.set_cons_succ, List.getElem_toArray, List.getElem_cons_zero, List.getElem_cons_succ]
  refine wpAnyH_take (i := 10) (oi := _) (v := .bool false) rfl (by kernel_rfl) (by kernel_rfl) (by kernel_rfl) (fun _ _ _ h => h) (Or.inl ⟨by rfl, fun w hSw => ?_⟩) hS0 ?_
  · obtain ⟨x0, x1, x2⟩ := hSw; go_simp
  try simp only [Act.put, List.setIfInBounds_toArray, List.set_cons_zero, List.set_cons_succ, List.getElem_toArray, List.getElem_cons_zero, List.getElem_cons_succ]
  refine wpAnyH_take (i := 11) (oi := _) (v := .pointer (some ⟨Z, 1, none⟩)) rfl (by kernel_rfl) (by kernel_rfl) (by kernel_rfl) (fun _ _ _ h => h) (Or.inl ⟨by rfl, fun w hSw => ?_⟩) hS0 ?_
  · obtain ⟨x0, x1, x2⟩ := hSw; go_simp
  try simp only [Act.put, List.setIfInBounds_toArray, List.set_cons_zero, List.set_cons_succ, List.getElem_toArray, List.getElem_cons_zero, List.getElem_cons_succ]
  refine wpAnyH_take (i := 12) (oi := _) (v := .slice oa k oc) rfl (by kernel_rfl) (by kernel_rfl) (by kernel_rfl) (fun _ _ _ h => h) (Or.inl ⟨by rfl, fun w hSw => ?_⟩) hS0 ?_
  · obtain ⟨x0, x1, x2⟩ := hSw; go_simp
  try simp only [Act.put, List.setIfInBounds_toArray, List.set_cons_zero, List.set_cons_succ, List.getElem_toArray, List.getElem_cons_zero, List.getElem_cons_succ]
  refine wpAnyH_take (i := 13) (oi := _) (v := .int .i64 k) rfl (by kernel_rfl) (by kernel_rfl) (by kernel_rfl) (fun _ _ _ h => h) (Or.inl ⟨by rfl, fun w hSw => ?_⟩) hS0 ?_
  · obtain ⟨x0, x1, x2⟩ := hSw; go_simp
  try simp only [Act.put, List.setIfInBounds_toArray, List.set_cons_zero, List.set_cons_succ, List.getElem_toArray, List.getElem_cons_zero, List.getElem_cons_succ]
  refine wpAnyH_take (i := 14) (oi := _) (v := .slice la n lc) rfl (by kernel_rfl) (by kernel_rfl) (by kernel_rfl) (fun _ _ _ h => h) (Or.inl ⟨by rfl, fun w hSw => ?_⟩) hS0 ?_
  · obtain ⟨x0, x1, x2⟩ := hSw; go_simp
  try simp only [Act.put, List.setIfInBounds_toArray, List.set_cons_zero, List.set_cons_succ, List.getElem_toArray, List.getElem_cons_zero, List.getElem_cons_succ]
  refine wpAnyH_take (i := 15) (oi := _) (v := .int .i64 n) rfl (by kernel_rfl) (by kernel_rfl) (by kernel_rfl) (fun _ _ _ h => h) (Or.inl ⟨by rfl, fun w hSw => ?_⟩) hS0 ?_
  · obtain ⟨x0, x1, x2⟩ := hSw; go_simp
  try simp only [Act.put, List.setIfInBounds_toArray, List.set_cons_zero, List.set_cons_succ, List.getElem_toArray, List.getElem_cons_zero, List.getElem_cons_succ]
  refine wpAnyH_take (i := 16) (oi := _) (v := .pointer (some ⟨Z, 0, none⟩)) rfl (by kernel_rfl) (by kernel_rfl) (by kernel_rfl) (fun _ _ _ h => h) (Or.inl ⟨by rfl, fun w hSw => ?_⟩) hS0 ?_
  · obtain ⟨x0, x1, x2⟩ := hSw; go_simp
  try simp only [Act.put, List.setIfInBounds_toArray, List.set_cons_zero, List.set_cons_succ, List.getElem_toArray, List.getElem_cons_zero, List.getElem_cons_succ]
  refine wpAnyH_take (i := 17) (oi := _) (v := .int .i64 a) rfl (by kernel_rfl) (by kernel_rfl) (by kernel_rfl) (fun _ _ _ h => h) (Or.inl ⟨by rfl, fun w hSw => ?_⟩) hS0 ?_
  · obtain ⟨x0, x1, x2⟩ := hSw; go_simp
  try simp only [Act.put, List.setIfInBounds_toArray, List.set_cons_zero, List.set_cons_succ, List.getElem_toArray, List.getElem_cons_zero, List.getElem_cons_succ]
  refine wpAnyH_take (i := 18) (oi := _) (v := .int .i64 d) rfl (by kernel_rfl) (by kernel_rfl) (by kernel_rfl) (fun _ _ _ h => h) (Or.inl ⟨by rfl, fun w hSw => ?_⟩) hS0 ?_
  · obtain ⟨x0, x1, x2⟩ := hSw; go_simp
  try simp only [Act.put, List.setIfInBounds_toArray, List.set_cons_zero, List.set_cons_succ, List.getElem_toArray, List.getElem_cons_zero, List.getElem_cons_succ]
  refine wpAnyH_take (i := 19) (oi := _) (v := .bool false) rfl (by kernel_rfl) (by kernel_rfl) (by kernel_rfl) (fun _ _ _ h => h) (Or.inl ⟨by rfl, fun w hSw => ?_⟩) hS0 ?_
  · obtain ⟨x0, x1, x2⟩ := hSw; go_simp
  try simp only [Act.put, List.setIfInBounds_toArray, List.set_cons_zero, List.set_cons_succ, List.getElem_toArray, List.getElem_cons_zero, List.getElem_cons_succ]
  refine wpAnyH_take (i := 20) (oi := _) (v := .bool false) rfl (by kernel_rfl) (by kernel_rfl) (by kernel_rfl) (fun _ _ _ h => h) (Or.inl ⟨by rfl, fun w hSw => ?_⟩) hS0 ?_
  · obtain ⟨x0, x1, x2⟩ := hSw; go_simp
  try simp only [Act.put, List.setIfInBounds_toArray, List.set_cons_zero, List.set_cons_succ, List.getElem_toArray, List.getElem_cons_zero, List.getElem_cons_succ]
  refine wpAnyH_take (i := 21) (oi := _) (v := .bool false) rfl (by kernel_rfl) (by kernel_rfl) (by kernel_rfl) (fun _ _ _ h => h) (Or.inl ⟨by rfl, fun w hSw => ?_⟩) hS0 ?_
  · obtain ⟨x0, x1, x2⟩ := hSw; go_simp
  try simp only [Act.put, List.setIfInBounds_toArray, List.set_cons_zero, List.set_cons_succ, List.getElem_toArray, List.getElem_cons_zero, List.getElem_cons_succ]
  refine wpAnyH_take (i := 22) (oi := _) (v := .slice la n lc) rfl (by kernel_rfl) (by kernel_rfl) (by kernel_rfl) (fun _ _ _ h => h) (Or.inl ⟨by rfl, fun w hSw => ?_⟩) hS0 ?_
  · obtain ⟨x0, x1, x2⟩ := hSw; go_simp
  try simp only [Act.put, List.setIfInBounds_toArray, List.set_cons_zero, List.set_cons_succ, List.getElem_toArray, List.getElem_cons_zero, List.getElem_cons_succ]
  refine wpAnyH_take (i := 23) (oi := _) (v := .pointer (some ⟨Z, 0, none⟩)) rfl (by kernel_rfl) (by kernel_rfl) (by kernel_rfl) (fun _ _ _ h => h) (Or.inl ⟨by rfl, fun w hSw => ?_⟩) hS0 ?_
  · obtain ⟨x0, x1, x2⟩ := hSw; go_simp
  try simp only [Act.put, List.setIfInBounds_toArray, List.set_cons_zero, List.set_cons_succ, List.getElem_toArray, List.getElem_cons_zero, List.getElem_cons_succ]
  refine wpAnyH_take (i := 24) (oi := _) (v := .int .i64 a) rfl (by kernel_rfl) (by kernel_rfl) (by kernel_rfl) (fun _ _ _ h => h) (Or.inl ⟨by rfl, fun w hSw => ?_⟩) hS0 ?_
  · obtain ⟨x0, x1, x2⟩ := hSw; go_simp
  try simp only [Act.put, List.setIfInBounds_toArray, List.set_cons_zero, List.set_cons_succ, List.getElem_toArray, List.getElem_cons_zero, List.getElem_cons_succ]
  refine wpAnyH_take (i := 25) (oi := _) (v := .pointer (some ⟨Z, 0, none⟩)) rfl (by kernel_rfl) (by kernel_rfl) (by kernel_rfl) (fun _ _ _ h => h) (Or.inl ⟨by rfl, fun w hSw => ?_⟩) hS0 ?_
  · obtain ⟨x0, x1, x2⟩ := hSw; go_simp
  try simp only [Act.put, List.setIfInBounds_toArray, List.set_cons_zero, List.set_cons_succ, List.getElem_toArray, List.getElem_cons_zero, List.getElem_cons_succ]
  refine wpAnyH_take (i := 26) (oi := _) (v := .int .i64 a) rfl (by kernel_rfl) (by kernel_rfl) (by kernel_rfl) (fun _ _ _ h => h) (Or.inl ⟨by rfl, fun w hSw => ?_⟩) hS0 ?_
  · obtain ⟨x0, x1, x2⟩ := hSw; go_simp
  try simp only [Act.put, List.setIfInBounds_toArray, List.set_cons_zero, List.set_cons_succ, List.getElem_toArray, List.getElem_cons_zero, List.getElem_cons_succ]
  refine wpAnyH_take (i := 27) (oi := _) (v := .pointer (some ⟨Z, 1, none⟩)) rfl (by kernel_rfl) (by kernel_rfl) (by kernel_rfl) (fun _ _ _ h => h) (Or.inl ⟨by rfl, fun w hSw => ?_⟩) hS0 ?_
  · obtain ⟨x0, x1, x2⟩ := hSw; go_simp
  try simp only [Act.put, List.setIfInBounds_toArray, List.set_cons_zero, List.set_cons_succ, List.getElem_toArray, List.getElem_cons_zero, List.getElem_cons_succ]
  refine wpAnyH_take (i := 28) (oi := _) (v := .slice oa k oc) rfl (by kernel_rfl) (by kernel_rfl) (by kernel_rfl) (fun _ _ _ h => h) (Or.inl ⟨by rfl, fun w hSw => ?_⟩) hS0 ?_
  · obtain ⟨x0, x1, x2⟩ := hSw; go_simp
  try simp only [Act.put, List.setIfInBounds_toArray, List.set_cons_zero, List.set_cons_succ, List.getElem_toArray, List.getElem_cons_zero, List.getElem_cons_succ]
  refine wpAnyH_take (i := 29) (oi := _) (v := .int .i64 k) rfl (by kernel_rfl) (by kernel_rfl) (by kernel_rfl) (fun _ _ _ h => h) (Or.inl ⟨by rfl, fun w hSw => ?_⟩) hS0 ?_
  · obtain ⟨x0, x1, x2⟩ := hSw; go_simp
  try simp only [Act.put, List.setIfInBounds_toArray, List.set_cons_zero, List.set_cons_succ, List.getElem_toArray, List.getElem_cons_zero, List.getElem_cons_succ]
  refine wpAnyH_take (i := 30) (oi := _) (v := .int .i64 e) rfl (by kernel_rfl) (by kernel_rfl) (by kernel_rfl) (fun _ _ _ h => h) (Or.inl ⟨by rfl, fun w hSw => ?_⟩) hS0 ?_
  · obtain ⟨x0, x1, x2⟩ := hSw; go_simp
  try simp only [Act.put, List.setIfInBounds_toArray, List.set_cons_zero, List.set_cons_succ, List.getElem_toArray, List.getElem_cons_zero, List.getElem_cons_succ]
  refine wpAnyH_take (i := 31) (oi := _) (v := .slice la2 k (lc - a)) rfl (by kernel_rfl) (by kernel_rfl) (by kernel_rfl) (fun _ _ _ h => h) (Or.inl ⟨by rfl, fun w hSw => ?_⟩) hS0 ?_
  · obtain ⟨x0, x1, x2⟩ := hSw; go_simp
  try simp only [Act.put, List.setIfInBounds_toArray, List.set_cons_zero, List.set_cons_succ, List.getElem_toArray, List.getElem_cons_zero, List.getElem_cons_succ]
  refine wpAnyH_take (i := 32) (oi := _) (v := .pointer (some ⟨Z, 1, none⟩)) rfl (by kernel_rfl) (by kernel_rfl) (by kernel_rfl) (fun _ _ _ h => h) (Or.inl ⟨by rfl, fun w hSw => ?_⟩) hS0 ?_
  · obtain ⟨x0, x1, x2⟩ := hSw; go_simp
  try simp only [Act.put, List.setIfInBounds_toArray, List.set_cons_zero, List.set_cons_succ, List.getElem_toArray, List.getElem_cons_zero, List.getElem_cons_succ]
  refine wpAnyH_take (i := 33) (oi := _) (v := .slice oa k oc) rfl (by kernel_rfl) (by kernel_rfl) (by kernel_rfl) (fun _ _ _ h => h) (Or.inl ⟨by rfl, fun w hSw => ?_⟩) hS0 ?_
  · obtain ⟨x0, x1, x2⟩ := hSw; go_simp
  try simp only [Act.put, List.setIfInBounds_toArray, List.set_cons_zero, List.set_cons_succ, List.getElem_toArray, List.getElem_cons_zero, List.getElem_cons_succ]
  refine wpAnyH_ready (rs := [34]) (by kernel_rfl) (by simp) (AllReadyH.cons (o := _) rfl (fun K' hK => ?_) AllReadyH.nil)
  simp only [List.getElem_toArray, List.getElem_cons_zero, List.getElem_cons_succ]
  rw [if_pos (by rfl)]
  go_simp
  refine (Cs.out).mono ?_
  rintro e w2 ⟨rfl, h2⟩
  refine hK.out _ _ ⟨q0 h2, q1 h2, q2 h2⟩ (fun hS1 => ?_)
  clear hK K' hS0
  try simp only [Act.put, List.setIfInBounds_toArray, List.set_cons_zero, List.set_cons_succ, List.getElem_toArray, List.getElem_cons_zero, List.getElem_cons_succ]
  refine wpAnyH_take (i := 35) (oi := _) (v := .bool false) rfl (by kernel_rfl) (by kernel_rfl) (by kernel_rfl) (fun _ _ _ h => h) (Or.inl ⟨by rfl, fun w hSw => ?_⟩) hS1 ?_
  · obtain ⟨x0, x1, x2⟩ := hSw; go_simp
  try simp only [Act.put, List.setIfInBounds_toArray, List.set_cons_zero, List.set_cons_succ, List.getElem_toArray, List.getElem_cons_zero, List.getElem_cons_succ]
  refine wpAnyH_take (i := 36) (oi := _) (v := .bool false) rfl (by kernel_rfl) (by kernel_rfl) (by kernel_rfl) (fun _ _ _ h => h) (Or.inl ⟨by rfl, fun w hSw => ?_⟩) hS1 ?_
  · obtain ⟨x0, x1, x2⟩ := hSw; go_simp
  try simp only [Act.put, List.setIfInBounds_toArray, List.set_cons_zero, List.set_cons_succ, List.getElem_toArray, List.getElem_cons_zero, List.getElem_cons_succ]
  refine wpAnyH_take (i := 37) (oi := _) (v := .bool false) rfl (by kernel_rfl) (by kernel_rfl) (by kernel_rfl) (fun _ _ _ h => h) (Or.inl ⟨by rfl, fun w hSw => ?_⟩) hS1 ?_
  · obtain ⟨x0, x1, x2⟩ := hSw; go_simp
  try simp only [Act.put, List.setIfInBounds_toArray, List.set_cons_zero, List.set_cons_succ, List.getElem_toArray, List.getElem_cons_zero, List.getElem_cons_succ]
  refine wpAnyH_take (i := 38) (oi := _) (v := .slice la n lc) rfl (by kernel_rfl) (by kernel_rfl) (by kernel_rfl) (fun _ _ _ h => h) (Or.inl ⟨by rfl, fun w hSw => ?_⟩) hS1 ?_
  · obtain ⟨x0, x1, x2⟩ := hSw; go_simp
  try simp only [Act.put, List.setIfInBounds_toArray, List.set_cons_zero, List.set_cons_succ, List.getElem_toArray, List.getElem_cons_zero, List.getElem_cons_succ]
  refine wpAnyH_take (i := 39) (oi := _) (v := .int .i64 n) rfl (by kernel_rfl) (by kernel_rfl) (by kernel_rfl) (fun _ _ _ h => h) (Or.inl ⟨by rfl, fun w hSw => ?_⟩) hS1 ?_
  · obtain ⟨x0, x1, x2⟩ := hSw; go_simp
  try simp only [Act.put, List.setIfInBounds_toArray, List.set_cons_zero, List.set_cons_succ, List.getElem_toArray, List.getElem_cons_zero, List.getElem_cons_succ]
  refine wpAnyH_take (i := 40) (oi := _) (v := .pointer (some ⟨Z, 1, none⟩)) rfl (by kernel_rfl) (by kernel_rfl) (by kernel_rfl) (fun _ _ _ h => h) (Or.inl ⟨by rfl, fun w hSw => ?_⟩) hS1 ?_
  · obtain ⟨x0, x1, x2⟩ := hSw; go_simp
  try simp only [Act.put, List.setIfInBounds_toArray, List.set_cons_zero, List.set_cons_succ, List.getElem_toArray, List.getElem_cons_zero, List.getElem_cons_succ]
  refine wpAnyH_take (i := 41) (oi := _) (v := .slice oa k oc) rfl (by kernel_rfl) (by kernel_rfl) (by kernel_rfl) (fun _ _ _ h => h) (Or.inl ⟨by rfl, fun w hSw => ?_⟩) hS1 ?_
  · obtain ⟨x0, x1, x2⟩ := hSw; go_simp
  try simp only [Act.put, List.setIfInBounds_toArray, List.set_cons_zero, List.set_cons_succ, List.getElem_toArray, List.getElem_cons_zero, List.getElem_cons_succ]
  refine wpAnyH_take (i := 42) (oi := _) (v := .int .i64 k) rfl (by kernel_rfl) (by kernel_rfl) (by kernel_rfl) (fun _ _ _ h => h) (Or.inl ⟨by rfl, fun w hSw => ?_⟩) hS1 ?_
  · obtain ⟨x0, x1, x2⟩ := hSw; go_simp
  try simp only [Act.put, List.setIfInBounds_toArray, List.set_cons_zero, List.set_cons_succ, List.getElem_toArray, List.getElem_cons_zero, List.getElem_cons_succ]
  refine wpAnyH_take (i := 43) (oi := _) (v := .int .i64 f) rfl (by kernel_rfl) (by kernel_rfl) (by kernel_rfl) (fun _ _ _ h => h) (Or.inl ⟨by rfl, fun w hSw => ?_⟩) hS1 ?_
  · obtain ⟨x0, x1, x2⟩ := hSw; go_simp
  try simp only [Act.put, List.setIfInBounds_toArray, List.set_cons_zero, List.set_cons_succ, List.getElem_toArray, List.getElem_cons_zero, List.getElem_cons_succ]
  refine wpAnyH_take (i := 44) (oi := _) (v := .pointer (some ⟨Z, 2, none⟩)) rfl (by kernel_rfl) (by kernel_rfl) (by kernel_rfl) (fun _ _ _ h => h) (Or.inl ⟨by rfl, fun w hSw => ?_⟩) hS1 ?_
  · obtain ⟨x0, x1, x2⟩ := hSw; go_simp
  try simp only [Act.put, List.setIfInBounds_toArray, List.set_cons_zero, List.set_cons_succ, List.getElem_toArray, List.getElem_cons_zero, List.getElem_cons_succ]
  refine wpAnyH_take (i := 45) (oi := _) (v := .slice na m nc) rfl (by kernel_rfl) (by kernel_rfl) (by kernel_rfl) (fun _ _ _ h => h) (Or.inl ⟨by rfl, fun w hSw => ?_⟩) hS1 ?_
  · obtain ⟨x0, x1, x2⟩ := hSw; go_simp
  try simp only [Act.put, List.setIfInBounds_toArray, List.set_cons_zero, List.set_cons_succ, List.getElem_toArray, List.getElem_cons_zero, List.getElem_cons_succ]
  refine wpAnyH_take (i := 46) (oi := _) (v := .int .i64 m) rfl (by kernel_rfl) (by kernel_rfl) (by kernel_rfl) (fun _ _ _ h => h) (Or.inl ⟨by rfl, fun w hSw => ?_⟩) hS1 ?_
  · obtain ⟨x0, x1, x2⟩ := hSw; go_simp
  try simp only [Act.put, List.setIfInBounds_toArray, List.set_cons_zero, List.set_cons_succ, List.getElem_toArray, List.getElem_cons_zero, List.getElem_cons_succ]
  refine wpAnyH_take (i := 47) (oi := _) (v := .int .i64 g) rfl (by kernel_rfl) (by kernel_rfl) (by kernel_rfl) (fun _ _ _ h => h) (Or.inl ⟨by rfl, fun w hSw => ?_⟩) hS1 ?_
  · obtain ⟨x0, x1, x2⟩ := hSw; go_simp
  try simp only [Act.put, List.setIfInBounds_toArray, List.set_cons_zero, List.set_cons_succ, List.getElem_toArray, List.getElem_cons_zero, List.getElem_cons_succ]
  refine wpAnyH_take (i := 48) (oi := _) (v := .bool true) rfl (by kernel_rfl) (by kernel_rfl) (by kernel_rfl) (fun _ _ _ h => h) (Or.inl ⟨by rfl, fun w hSw => ?_⟩) hS1 ?_
  · obtain ⟨x0, x1, x2⟩ := hSw; go_simp
  try simp only [Act.put, List.setIfInBounds_toArray, List.set_cons_zero, List.set_cons_succ, List.getElem_toArray, List.getElem_cons_zero, List.getElem_cons_succ]
  refine wpAnyH_take (i := 49) (oi := _) (v := .bool true) rfl (by kernel_rfl) (by kernel_rfl) (by kernel_rfl) (fun _ _ _ h => h) (Or.inl ⟨by rfl, fun w hSw => ?_⟩) hS1 ?_
  · obtain ⟨x0, x1, x2⟩ := hSw; go_simp
  try simp only [Act.put, List.setIfInBounds_toArray, List.set_cons_zero, List.set_cons_succ, List.getElem_toArray, List.getElem_cons_zero, List.getElem_cons_succ]
  refine wpAnyH_done (by kernel_rfl) ?_ _
  try dsimp only [Whole]
  clear k0 k1 k2 Cs
  have H2 := Lib.hid h2
  clear h2
  go_wp2_with fail
  go_ret2
  exact ⟨rfl, H2.out.drop⟩
end
end Go.Proofs.YtcdoomlagmddcaaGreatDoor
