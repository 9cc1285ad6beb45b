/- The document's keys of a register, its register of keys. -/
import Derived.Test.YtkgngcibjkkhkaaDoorMG
import Derived.Test.YtkgngcibjkkhkaaDoorMK
import Derived.Test.YtkgngcibjkkhkaaDoorBld
import Derived.Deep.DeepCutAuto
namespace Go.Proofs.YtkgngcibjkkhkaaDoor
open Go Go.RowKit Go.Fol
attribute [local go_sem ↓] Go.wp_at_zero Go.wp_at_succ
set_option linter.unusedVariables false
set_option linter.unusedSimpArgs false
section
variable {w0 w : World} {R : List Asrt}
theorem wplaceAll (k : Int) : ∃ m : Int, ∀ w : World, Calls Tryd.prog 14 #[.int .i64 k, .int .i64 3] w fun e w' => e = .returned (.int .i64 m) ∧ w = w' := by
  have h1 : -3 < k.tmod 3 := Int.lt_tmod_of_pos k (by decide)
  have h2 : k.tmod 3 < 3 := Int.tmod_lt_of_pos k (by decide)
  by_cases h : k.tmod 3 < 0
  · refine ⟨k.tmod 3 + 3, fun w => ?_⟩
    go_enter Tryd.func14, Tryd.ntmps14
    go_wp2_with fail
    go_ret
    exact ⟨rfl, rfl⟩
  · refine ⟨k.tmod 3, fun w => ?_⟩
    go_enter Tryd.func14, Tryd.ntmps14
    go_wp2_with fail
    go_ret
    exact ⟨rfl, rfl⟩
/-- append(b, 10), the byte just laid. -/
theorem app_lf {v : Value} {xs : List UInt8} (H : Owns w0 w (lrow v xs :: R)) (hl : xs.length ≤ 2000000) :
    ∃ v' w', (∀ ty, (Builtin.append_ #[22, 22] ty #[v, .slice (some ⟨w.heap.size, 0, none⟩) 1 1]).run Tryd.prog (w.alloc (.cells #[.int .u8 10] 5)) = .ok v' w') ∧ Owns w0 w' (lrow v' (xs ++ [10]) :: R) := by
  have h1 := H.alloc #[.int .u8 10] 5
  obtain ⟨v', w', hr, h2⟩ := app_byte (x := .slice (some ⟨w.heap.size, 0, none⟩) 1 1) (m := 1) (vs := [.int .u8 10]) h1.p1 (Reads.obj (b := w.heap.size) (k := 1) (n := 1) (c := 1) (t := 5) (f := (0, 0)) (cs := #[.int .u8 10]) (by simp) (by decide) (by decide) (by simp)) (by simp [Value.oneCell']) (by unfold maxLen; omega) (by omega)
  refine ⟨v', w', hr, ?_⟩
  have h3 := h2.p1.drop
  have e : kints .u8 (bn xs) ++ [Value.int .u8 10] = kints .u8 (bn (xs ++ [10])) := by simp [kints, bn]
  rw [e] at h3
  rw [lrow, List.length_append]
  exact h3
set_option maxHeartbeats 2000000 in
theorem wkeysOf {k : Int} {a : Option Addr} {c : Nat} {L : List (List UInt8)} (H : Owns w0 w R) (hk : Reads w0 R 1 (.slice a L.length c) L.length (lstrs L)) (hl : (joinL L).length ≤ 1500000) (hL : L.length ≤ 1000000) :
    Calls Tryd.prog 16 #[.agg #[.int .i64 k, .slice a L.length c]] w (RetX (fun v : Value => v) w0 (fun v => Asrt.src 1 v (keysL k L).length (kints .u8 (bn (keysL k L))) :: R)) := by
  have h1 := (H.alloc #[.int .i64 k, .slice a L.length c] 33).rowNil 5 1
  obtain ⟨X, hX⟩ : ∃ X, X = w.heap.size := ⟨_, rfl⟩
  rw [← hX] at h1
  obtain ⟨n, hn⟩ : ∃ n, n = L.length := ⟨_, rfl⟩
  rw [← hn] at h1 hk hL ⊢
  have hg : ∀ i x, L[i]? = some x → ∀ wx, Owns w0 wx R → ∃ b o, a = some ⟨b, o, none⟩ ∧ n ≤ c ∧ wx.cell? ⟨b, o + i, none⟩ = some (.string (bs x)) := fun i x hx wx h => by
    have hi : i < L.length := (List.getElem?_eq_some_iff.1 hx).1
    obtain ⟨b, o, c', e1, hc, _, hce⟩ := (hk wx h).cells (by omega) (by decide)
    cases e1
    refine ⟨b, o, rfl, hc, hce i _ ?_⟩
    simp [lstrs, strs, hx]
  have HX := Lib.hid hX
  have Hn := Lib.hid hn
  have Hg := Lib.hid hg
  have Hl := Lib.hid hl
  have H1 := Lib.hid h1
  clear H hk hX hn hg hl h1
  go_enter Tryd.func16, Tryd.ntmps16
  go_wp2_with fail
  rw [← HX.out]
  go_loopw [3, 4] (fun bv q wr => ∃ i : Nat, i ≤ n ∧ q = .int .i64 i ∧ Owns w0 wr (lrow bv (joinL (L.take i)) :: Asrt.obj X (.cells #[.int .i64 k, .slice a n c] 33 (0, 0)) :: R)) (fun _ q _ => n - (intOf q).toNat)
  case atStart => exact ⟨0, Nat.zero_le _, rfl, H1.out⟩
  case round =>
    obtain ⟨i, hi, rfl, hr⟩ := hrel
    have k0 : wr.cell? ⟨X, 0, none⟩ = some (.int .i64 k) := hr.p1.cell (j := 0) rfl
    have k1 : wr.cell? ⟨X, 1, none⟩ = some (.slice a n c) := hr.p1.cell (j := 1) rfl
    have hlt2 : (joinL (L.take i)).length ≤ 1500000 := Nat.le_trans (joinL_mono L i) Hl.out
    have Hr := Lib.hid hr
    clear hr
    by_cases hlt : i < n
    · obtain ⟨x, hx⟩ : ∃ x, L[i]? = some x := ⟨_, List.getElem?_eq_getElem (by rw [← Hn.out]; exact hlt)⟩
      have hj := joinL_take hx
      have hjl : (joinL (L.take (i + 1))).length ≤ 1500000 := Nat.le_trans (joinL_mono L (i + 1)) Hl.out
      have Hx := Lib.hid hx
      have Hj := Lib.hid hj
      clear hx hj
      by_cases h0 : i = 0
      · subst h0
        obtain ⟨b, o, rfl, hnc, hcell⟩ := Hg.out 0 x Hx.out wr Hr.out.drop.drop
        obtain ⟨v', w', hrun, h2⟩ := app_bs x Hr.out (by have := Hj.out; rw [this] at hjl; simp only [List.length_append] at hjl; omega)
        have H2 := Lib.hid h2
        simp only [Nat.add_zero] at hcell
        clear h2
        go_wp2_with (at_builtin; refine Lib.wpList_append_run _ rfl _ _ _ _ rfl _ _ rfl rfl _ _ (hrun _) ?_)
        go_roundw
        case rel => exact ⟨1, by omega, by go_num, by have := H2.out; rw [show joinL (L.take 1) = joinL (L.take 0) ++ x by have := Hj.out; simpa using this]; exact this⟩
        case measure => simp [intOf]; omega
      · have h0p : 0 < i := by omega
        obtain ⟨v1, w1, hrun1, h2⟩ := app_lf Hr.out (by omega)
        obtain ⟨b, o, rfl, hnc, hcell⟩ := Hg.out i x Hx.out w1 h2.drop.drop
        have q1 : w1.cell? ⟨X, 1, none⟩ = some (.slice (some ⟨b, o, none⟩) n c) := h2.p1.cell (j := 1) rfl
        obtain ⟨v2, w2, hrun2, h3⟩ := app_bs x h2 (by have := Hj.out; rw [this, if_pos h0p] at hjl; simp only [List.length_append] at hjl ⊢; omega)
        have H3 := Lib.hid h3
        clear h2 h3 h0
        go_wp2_with (at_builtin; first | refine Lib.wpList_append_run _ rfl _ _ _ _ rfl _ _ rfl rfl _ _ (hrun1 _) ?_ | refine Lib.wpList_append_run _ rfl _ _ _ _ rfl _ _ rfl rfl _ _ (hrun2 _) ?_)
        go_roundw
        case rel => exact ⟨i + 1, by omega, by go_num, by have := H3.out; rw [Hj.out, if_pos h0p]; exact this⟩
        case measure => simp [intOf]; omega
    · obtain rfl : i = n := by omega
      have ht : L.take i = L := by rw [Hn.out]; exact List.take_length
      have Ht := Lib.hid ht
      clear hlt ht
      by_cases hk1 : k = 1
      · subst hk1
        obtain ⟨v1, w1, hrun1, h2⟩ := app_lf Hr.out (by omega)
        have H2 := Lib.hid h2
        clear h2
        go_wp2_with (at_builtin; refine Lib.wpList_append_run _ rfl _ _ _ _ rfl _ _ rfl rfl _ _ (hrun1 _) ?_)
        go_ret
        have h3 := (H2.out.p1.drop)
        rw [Ht.out] at h3
        have hkl : keysL 1 L = joinL L ++ [10] := by unfold keysL; rw [if_pos rfl]
        rw [hkl]
        exact ⟨v1, rfl, h3.srcOfRow (by decide)⟩
      · have hkf : (k == 1) = false := beq_eq_false_iff_ne.2 hk1
        clear hk1
        go_wp2_with fail
        go_ret
        have h3 := (Hr.out.p1.drop)
        rw [Ht.out] at h3
        have hkl : keysL k L = joinL L := by unfold keysL; rw [if_neg (by simpa using hkf), List.append_nil]
        rw [hkl]
        exact ⟨_, rfl, h3.srcOfRow (by decide)⟩
theorem slice_bytes (l : List UInt8) (i f : Nat) : ((kints .u8 (bn l)).drop (f * 1)).take ((i - f) * 1) = kints .u8 (bn ((l.take i).drop f)) := by
  rw [Nat.mul_one, Nat.mul_one, List.drop_take]
  simp [kints, bn, List.map_drop, List.map_take]
set_option maxHeartbeats 2000000 in
theorem wregOf {ka : Option Addr} {n kc : Nat} {l : List UInt8} (hl : l.length ≤ 100000) (hn : n = l.length) (H : Owns w0 w R) (hk : Reads w0 R 1 (.slice ka n kc) n (kints .u8 (bn l))) :
    Calls Tryd.prog 19 #[.slice ka n kc] w (RetX (fun x : Option Addr × Nat => .agg #[.int .i64 0, .slice x.1 (linesL l).length x.2]) w0 (fun x => row_str (.slice x.1 (linesL l).length x.2) (linesL l).length (lstrs (linesL l)) :: R)) := by
  have h1 := H.alloc #[.int .i64 0, .slice none 0 0] 33
  have h2 := (h1.alloc #[.int .i64 0, .slice none 0 0] 33).rowNil 9 1
  obtain ⟨Z, hZ⟩ : ∃ Z, Z = w.heap.size := ⟨_, rfl⟩
  rw [World.size_alloc, ← hZ] at h2
  have hkc : n ≤ kc := (hk w H).capLe
  have hn1 : n ≤ 100000 := by omega
  have HZ := Lib.hid hZ
  have Hn := Lib.hid hn
  have Hk := Lib.hid hk
  have H2 := Lib.hid h2
  clear H h1 h2 hZ hn hk hl
  go_enter Tryd.func19, Tryd.ntmps19
  go_wp2_with fail
  rw [← HZ.out]
  go_loopw [4, 5] (fun fv q wr => ∃ (i from_ : Nat) (D : List (List UInt8)) (sa : Option Addr) (sc : Nat), i ≤ n + 1 ∧ q = .int .i64 i ∧ fv = .int .i64 from_ ∧ from_ ≤ i ∧ (i ≤ n → Cut l i from_ D) ∧ (i = n + 1 → D = linesL l) ∧ D.length ≤ i ∧ Owns w0 wr (row_str (.slice sa D.length sc) D.length (lstrs D) :: Asrt.obj (Z + 1) (.cells #[.int .i64 0, .slice sa D.length sc] 33 (0, 0)) :: Asrt.obj Z (.cells #[.int .i64 0, .slice none 0 0] 33 (0, 0)) :: R)) (fun _ q _ => n + 1 - (intOf q).toNat)
  case atStart => exact ⟨0, 0, [], none, 0, by omega, rfl, rfl, by omega, fun _ => cut_start l, fun h => by omega, by decide, H2.out⟩
  case round =>
    obtain ⟨i, from_, D, sa, sc, hi, rfl, rfl, hfi, hcut, hend, hDl, hr⟩ := hrel
    have Hcut := Lib.hid hcut
    have Hend := Lib.hid hend
    have Hr := Lib.hid hr
    clear hcut hend hr
    obtain ⟨dl, hdl⟩ : ∃ dl, dl = D.length := ⟨_, rfl⟩
    rw [← hdl] at Hr hDl
    have Hdl := Lib.hid hdl
    clear hdl
    by_cases hin : i ≤ n
    · have hend : i = n ∨ i < n := by omega
      obtain ⟨seg, hseg⟩ : ∃ seg, seg = (l.take i).drop from_ := ⟨_, rfl⟩
      have hsegl : seg.length = i - from_ := by rw [hseg, List.length_drop, List.length_take, ← Hn.out]; omega
      obtain ⟨la2, hla⟩ : ∃ la2, (if kc = from_ then ka else Option.map (fun x => x.add from_) ka) = la2 := ⟨_, rfl⟩
      have h0 := Hr.out
      have hsl : Reads w0 (row_str (.slice sa dl sc) dl (lstrs D) :: Asrt.obj (Z + 1) (.cells #[.int .i64 0, .slice sa dl sc] 33 (0, 0)) :: Asrt.obj Z (.cells #[.int .i64 0, .slice none 0 0] 33 (0, 0)) :: R) 1 (.slice la2 (i - from_) (kc - from_)) (i - from_) (kints .u8 (bn seg)) := by
        have := Hk.out.sliced hfi hin (by decide)
        rw [slice_bytes, ← hseg] at this
        have e : Go.sliced ka from_ i kc 1 = .slice la2 (i - from_) (kc - from_) := by rw [← hla]; simp [Go.sliced]
        rw [e] at this
        exact this.cons.cons.cons
      have hcv : (convert 22 9 (.slice la2 (i - from_) (kc - from_))).run Tryd.prog wr.drew = .ok (.string (bs seg)) wr.drew :=
        run_bytes_str Tryd.underlying22 Tryd.underlying5 Tryd.underlying9 (hsl _ h0.drew)
      have h3 := h0.drew.alloc #[.string (bs seg)] 9
      obtain ⟨s', w5, hrn, h6⟩ := app_str (x := .slice (some ⟨wr.drew.heap.size, 0, none⟩) 1 1) (m := 1) (vs := [.string (bs seg)]) h3.p1 (Reads.obj (b := wr.drew.heap.size) (k := 1) (n := 1) (c := 1) (t := 9) (f := (0, 0)) (cs := #[.string (bs seg)]) (by simp) (by decide) (by decide) (by simp)) (by simp [Value.oneCell']) (by unfold maxLen; omega) (by omega)
      obtain ⟨sa', sc', rfl⟩ := row_slice h6.row
      have k5 : w5.cell? ⟨Z + 1, 1, none⟩ = some (.slice sa dl sc) := (h6.ord [2]).cell (j := 1) rfl
      have f5 := (h6.ord [2]).frozen 1
      have h7 := ((h6.p1.drop.p1.set 1 (.slice sa' (dl + 1) sc')).p1)
      have e7 : lstrs D ++ [Value.string (bs seg)] = lstrs (D ++ [seg]) := by simp [lstrs, strs]
      have e8 : dl + 1 = (D ++ [seg]).length := by rw [List.length_append, Hdl.out]; rfl
      rw [e7] at h7
      have H7 := Lib.hid h7
      have E8 := Lib.hid e8
      have Hseg := Lib.hid hseg
      clear h7 e7 e8 hseg hsegl hsl
      rcases hend with h | hlt
      · obtain rfl : n = i := h.symm
        clear h
        go_upto_region 7 with (fail)
        refine wp_region_T (fun w' => w'.cell? ⟨Z + 1, 1, none⟩ = some (.slice sa dl sc)) 10 (by kernel_rfl) ((h0.drew.p1.cell (j := 1) rfl)) (fun hS0 => ?_)
        refine wpAnyT_take (i := 0) (oi := _) (v := .pointer (some ⟨Z + 1, 1, none⟩)) [10] rfl (by kernel_rfl) (fun _ _ _ h => h) (Or.inl ⟨by rfl, fun w hSw => ?_⟩) hS0 ?_
        · have x0 := hSw; go_simp
        try simp only [Act.put, List.setIfInBounds_toArray, List.set_cons_zero, List.set_cons_succ, List.getElem_toArray, List.getElem_cons_zero, List.getElem_cons_succ]
        refine wpAnyT_take (i := 1) (oi := _) (v := .slice sa dl sc) [10] rfl (by kernel_rfl) (fun _ _ _ h => h) (Or.inl ⟨by rfl, fun w hSw => ?_⟩) hS0 ?_
        · have x0 := hSw; go_simp
        try simp only [Act.put, List.setIfInBounds_toArray, List.set_cons_zero, List.set_cons_succ, List.getElem_toArray, List.getElem_cons_zero, List.getElem_cons_succ]
        refine wpAnyT_take (i := 2) (oi := _) (v := .slice ka n kc) [10] rfl (by kernel_rfl) (fun _ _ _ h => h) (Or.inl ⟨by rfl, fun w hSw => ?_⟩) hS0 ?_
        · have x0 := hSw; go_simp
        try simp only [Act.put, List.setIfInBounds_toArray, List.set_cons_zero, List.set_cons_succ, List.getElem_toArray, List.getElem_cons_zero, List.getElem_cons_succ]
        refine wpAnyT_take (i := 3) (oi := _) (v := .int .i64 from_) [10] rfl (by kernel_rfl) (fun _ _ _ h => h) (Or.inl ⟨by rfl, fun w hSw => ?_⟩) hS0 ?_
        · have x0 := hSw; go_simp
        try simp only [Act.put, List.setIfInBounds_toArray, List.set_cons_zero, List.set_cons_succ, List.getElem_toArray, List.getElem_cons_zero, List.getElem_cons_succ]
        refine wpAnyT_take (i := 4) (oi := _) (v := .int .i64 n) [10] rfl (by kernel_rfl) (fun _ _ _ h => h) (Or.inl ⟨by rfl, fun w hSw => ?_⟩) hS0 ?_
        · have x0 := hSw; go_simp
        try simp only [Act.put, List.setIfInBounds_toArray, List.set_cons_zero, List.set_cons_succ, List.getElem_toArray, List.getElem_cons_zero, List.getElem_cons_succ]
        refine wpAnyT_take (i := 5) (oi := _) (v := .slice la2 (n - from_) (kc - from_)) [10] rfl (by kernel_rfl) (fun _ _ _ h => h) (Or.inl ⟨by rfl, fun w hSw => ?_⟩) hS0 ?_
        · have x0 := hSw; go_simp
        try simp only [Act.put, List.setIfInBounds_toArray, List.set_cons_zero, List.set_cons_succ, List.getElem_toArray, List.getElem_cons_zero, List.getElem_cons_succ]
        refine wpAnyT_step (i := 6) (o := _) rfl (by kernel_rfl) (fun K' hK => ?_)
        simp only [List.getElem_toArray, List.getElem_cons_zero, List.getElem_cons_succ]
        rw [if_pos (by rfl)]
        go_simp
        refine hK.out _ _ ((h0.drew.p1.cell (j := 1) rfl)) (fun hS1 => ?_)
        clear hK K' hS0
        try simp only [Act.put, List.setIfInBounds_toArray, List.set_cons_zero, List.set_cons_succ, List.getElem_toArray, List.getElem_cons_zero, List.getElem_cons_succ]
        refine wpAnyT_step (i := 7) (o := _) rfl (by kernel_rfl) (fun K' hK => ?_)
        simp only [List.getElem_toArray, List.getElem_cons_zero, List.getElem_cons_succ]
        rw [if_pos (by rfl)]
        go_simp
        refine hK.out _ _ ((h3.p2.cell (j := 1) rfl)) (fun hS2 => ?_)
        clear hK K' hS1
        try simp only [Act.put, List.setIfInBounds_toArray, List.set_cons_zero, List.set_cons_succ, List.getElem_toArray, List.getElem_cons_zero, List.getElem_cons_succ]
        refine wpAnyT_step (i := 8) (o := _) rfl (by kernel_rfl) (fun K' hK => ?_)
        simp only [List.getElem_toArray, List.getElem_cons_zero, List.getElem_cons_succ]
        rw [if_pos (by rfl)]
        refine wp_append_run (.tmp 25) (.tmp 31) 31 31 (.slice sa dl sc) (.slice (some ⟨wr.heap.size, 0, none⟩) 1 1) (hrn 31) rfl rfl rfl ?_
        refine hK.out _ _ (k5) (fun hS3 => ?_)
        clear hK K' hS2
        clear hrn
        try simp only [Act.put, List.setIfInBounds_toArray, List.set_cons_zero, List.set_cons_succ, List.getElem_toArray, List.getElem_cons_zero, List.getElem_cons_succ]
        refine wpAnyT_take (i := 9) (oi := _) (v := .pointer (some ⟨Z + 1, 1, none⟩)) [10] rfl (by kernel_rfl) (fun _ _ _ h => h) (Or.inl ⟨by rfl, fun w hSw => ?_⟩) hS3 ?_
        · have x0 := hSw; go_simp
        try simp only [Act.put, List.setIfInBounds_toArray, List.set_cons_zero, List.set_cons_succ, List.getElem_toArray, List.getElem_cons_zero, List.getElem_cons_succ]
        refine wpAnyT_last (i := 10) (o := _) rfl (by kernel_rfl) (by kernel_rfl) (fun K' hK => ?_)
        simp only [List.getElem_toArray, List.getElem_cons_zero, List.getElem_cons_succ]
        rw [if_pos (by rfl)]
        go_simp
        refine hK.out _ _ (wpAnyT_done (by kernel_rfl) ?_ _)
        dsimp only [Whole]
        go_wp2_with fail
        go_roundw
        case rel => exact ⟨n + 1, n + 1, D ++ [seg], sa', sc', by omega, by go_num, by go_num, by omega, fun h => by omega, fun _ => by rw [Hseg.out, Hn.out]; exact (cut_end (by rw [← Hn.out]; exact Hcut.out hin)).symm, by rw [← E8.out]; omega, by rw [← E8.out]; exact H7.out⟩
        case measure => simp [intOf]
      · obtain ⟨b, hb⟩ : ∃ b, l[i]? = some b := ⟨_, List.getElem?_eq_getElem (by rw [← Hn.out]; exact hlt)⟩
        have hcell : ∃ bl o, ka = some ⟨bl, o, none⟩ ∧ wr.cell? ⟨bl, o + i, none⟩ = some (.int .u8 (b.toNat : Int)) := by
          obtain ⟨bl, o, c', e1, _, _, hce⟩ := (Hk.out wr h0.drop.drop.drop).cells (by omega) (by decide)
          cases e1
          refine ⟨bl, o, rfl, hce i _ ?_⟩
          simp [kints, bn, hb]
        obtain ⟨bl, o, hka, hcell⟩ := hcell
        by_cases hb10 : b = 10
        · subst hb10
          have hb0 : ((10 : UInt8).toNat : Int) = 10 := by decide
          rw [hb0] at hcell
          subst hka
          have hikc : i ≤ kc := by omega
          have hla2 : (if kc = from_ then some (⟨bl, o, none⟩ : Addr) else some ⟨bl, o + from_, none⟩) = la2 := by rw [← hla]; split <;> simp [Addr.add]
          have Hb := Lib.hid hb
          clear hb hb0 hla
          go_upto_region 7 with (fail)
          refine wp_region_T (fun w' => w'.cell? ⟨Z + 1, 1, none⟩ = some (.slice sa dl sc)) 10 (by kernel_rfl) ((h0.drew.p1.cell (j := 1) rfl)) (fun hS0 => ?_)
          refine wpAnyT_take (i := 0) (oi := _) (v := .pointer (some ⟨Z + 1, 1, none⟩)) [10] rfl (by kernel_rfl) (fun _ _ _ h => h) (Or.inl ⟨by rfl, fun w hSw => ?_⟩) hS0 ?_
          · have x0 := hSw; go_simp
          try simp only [Act.put, List.setIfInBounds_toArray, List.set_cons_zero, List.set_cons_succ, List.getElem_toArray, List.getElem_cons_zero, List.getElem_cons_succ]
          refine wpAnyT_take (i := 1) (oi := _) (v := .slice sa dl sc) [10] rfl (by kernel_rfl) (fun _ _ _ h => h) (Or.inl ⟨by rfl, fun w hSw => ?_⟩) hS0 ?_
          · have x0 := hSw; go_simp
          try simp only [Act.put, List.setIfInBounds_toArray, List.set_cons_zero, List.set_cons_succ, List.getElem_toArray, List.getElem_cons_zero, List.getElem_cons_succ]
          refine wpAnyT_take (i := 2) (oi := _) (v := .slice (some ⟨bl, o, none⟩) n kc) [10] rfl (by kernel_rfl) (fun _ _ _ h => h) (Or.inl ⟨by rfl, fun w hSw => ?_⟩) hS0 ?_
          · have x0 := hSw; go_simp
          try simp only [Act.put, List.setIfInBounds_toArray, List.set_cons_zero, List.set_cons_succ, List.getElem_toArray, List.getElem_cons_zero, List.getElem_cons_succ]
          refine wpAnyT_take (i := 3) (oi := _) (v := .int .i64 from_) [10] rfl (by kernel_rfl) (fun _ _ _ h => h) (Or.inl ⟨by rfl, fun w hSw => ?_⟩) hS0 ?_
          · have x0 := hSw; go_simp
          try simp only [Act.put, List.setIfInBounds_toArray, List.set_cons_zero, List.set_cons_succ, List.getElem_toArray, List.getElem_cons_zero, List.getElem_cons_succ]
          refine wpAnyT_take (i := 4) (oi := _) (v := .int .i64 i) [10] rfl (by kernel_rfl) (fun _ _ _ h => h) (Or.inl ⟨by rfl, fun w hSw => ?_⟩) hS0 ?_
          · have x0 := hSw; go_simp
          try simp only [Act.put, List.setIfInBounds_toArray, List.set_cons_zero, List.set_cons_succ, List.getElem_toArray, List.getElem_cons_zero, List.getElem_cons_succ]
          refine wpAnyT_take (i := 5) (oi := _) (v := .slice la2 (i - from_) (kc - from_)) [10] rfl (by kernel_rfl) (fun _ _ _ h => h) (Or.inl ⟨by rfl, fun w hSw => ?_⟩) hS0 ?_
          · have x0 := hSw; go_simp
          try simp only [Act.put, List.setIfInBounds_toArray, List.set_cons_zero, List.set_cons_succ, List.getElem_toArray, List.getElem_cons_zero, List.getElem_cons_succ]
          refine wpAnyT_step (i := 6) (o := _) rfl (by kernel_rfl) (fun K' hK => ?_)
          simp only [List.getElem_toArray, List.getElem_cons_zero, List.getElem_cons_succ]
          rw [if_pos (by rfl)]
          go_simp
          refine hK.out _ _ ((h0.drew.p1.cell (j := 1) rfl)) (fun hS1 => ?_)
          clear hK K' hS0
          try simp only [Act.put, List.setIfInBounds_toArray, List.set_cons_zero, List.set_cons_succ, List.getElem_toArray, List.getElem_cons_zero, List.getElem_cons_succ]
          refine wpAnyT_step (i := 7) (o := _) rfl (by kernel_rfl) (fun K' hK => ?_)
          simp only [List.getElem_toArray, List.getElem_cons_zero, List.getElem_cons_succ]
          rw [if_pos (by rfl)]
          go_simp
          refine hK.out _ _ ((h3.p2.cell (j := 1) rfl)) (fun hS2 => ?_)
          clear hK K' hS1
          try simp only [Act.put, List.setIfInBounds_toArray, List.set_cons_zero, List.set_cons_succ, List.getElem_toArray, List.getElem_cons_zero, List.getElem_cons_succ]
          refine wpAnyT_step (i := 8) (o := _) rfl (by kernel_rfl) (fun K' hK => ?_)
          simp only [List.getElem_toArray, List.getElem_cons_zero, List.getElem_cons_succ]
          rw [if_pos (by rfl)]
          refine wp_append_run (.tmp 25) (.tmp 31) 31 31 (.slice sa dl sc) (.slice (some ⟨wr.heap.size, 0, none⟩) 1 1) (hrn 31) rfl rfl rfl ?_
          refine hK.out _ _ (k5) (fun hS3 => ?_)
          clear hK K' hS2
          clear hrn
          try simp only [Act.put, List.setIfInBounds_toArray, List.set_cons_zero, List.set_cons_succ, List.getElem_toArray, List.getElem_cons_zero, List.getElem_cons_succ]
          refine wpAnyT_take (i := 9) (oi := _) (v := .pointer (some ⟨Z + 1, 1, none⟩)) [10] rfl (by kernel_rfl) (fun _ _ _ h => h) (Or.inl ⟨by rfl, fun w hSw => ?_⟩) hS3 ?_
          · have x0 := hSw; go_simp
          try simp only [Act.put, List.setIfInBounds_toArray, List.set_cons_zero, List.set_cons_succ, List.getElem_toArray, List.getElem_cons_zero, List.getElem_cons_succ]
          refine wpAnyT_last (i := 10) (o := _) rfl (by kernel_rfl) (by kernel_rfl) (fun K' hK => ?_)
          simp only [List.getElem_toArray, List.getElem_cons_zero, List.getElem_cons_succ]
          rw [if_pos (by rfl)]
          go_simp
          refine hK.out _ _ (wpAnyT_done (by kernel_rfl) ?_ _)
          dsimp only [Whole]
          go_wp2_with fail
          go_roundw
          case rel => exact ⟨i + 1, i + 1, D ++ [seg], sa', sc', by omega, by go_num, by go_num, by omega, fun _ => by rw [Hseg.out]; exact cut_lf (Hcut.out hin) Hb.out, fun h => by omega, by rw [← E8.out]; omega, by rw [← E8.out]; exact H7.out⟩
          case measure => simp [intOf]; omega
        · have hbz : ((b.toNat : Int) == 10) = false := beq_eq_false_iff_ne.2 (fun h => hb10 (by apply UInt8.toNat_inj.1; show b.toNat = 10; omega))
          obtain ⟨bv, hbv⟩ : ∃ bv, (b.toNat : Int) = bv := ⟨_, rfl⟩
          rw [hbv] at hcell hbz
          subst hka
          have Hb := Lib.hid hb
          have Hb10 := Lib.hid hb10
          clear hb hb10 hbv hrn hcv k5 f5
          go_wp2_with fail
          go_roundw
          case rel => exact ⟨i + 1, from_, D, sa, sc, by omega, by go_num, rfl, by omega, fun _ => cut_on (Hcut.out hin) Hb.out Hb10.out, fun h => by omega, by rw [← Hdl.out]; omega, by rw [← Hdl.out]; exact Hr.out⟩
          case measure => simp [intOf]; omega
    · obtain rfl : i = n + 1 := by omega
      have hD : D = linesL l := Hend.out rfl
      have h0 := Hr.out
      rw [Hdl.out, hD] at h0
      obtain ⟨N, hN⟩ : ∃ N, N = (linesL l).length := ⟨_, rfl⟩
      have hdN : dl = N := by rw [Hdl.out, hD, hN]
      subst hdN
      rw [← hN] at h0
      have HN := Lib.hid hN
      have y0 := h0.p1.cell (j := 0) rfl
      have y1 := h0.p1.cell (j := 1) rfl
      have x0 := h0.p2.cell (j := 0) rfl
      have x1 := h0.p2.cell (j := 1) rfl
      have z0 := h0.p2.frozen 0
      have z1 := h0.p2.frozen 1
      have h4 := (h0.p2.set 0 (.int .i64 0)).set 1 (.slice sa dl sc)
      have u0 := h4.cell (j := 0) (v := .int .i64 0) rfl
      have u1 := h4.cell (j := 1) (v := .slice sa dl sc) rfl
      have H4 := Lib.hid h4
      clear h4 h0 hD hN hin
      go_wp2_with fail
      exact bodyPost_ret (v := .agg #[.int .i64 0, .slice sa dl sc]) (by simp [results, Tryd.results19, go_sem, u0, u1]) rfl ⟨(sa, sc), by rw [← HN.out], by rw [← HN.out]; exact H4.out.drop.p1.drop⟩
end
end Go.Proofs.YtkgngcibjkkhkaaDoor
