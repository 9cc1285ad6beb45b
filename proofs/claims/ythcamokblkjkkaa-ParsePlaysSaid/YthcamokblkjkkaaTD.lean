/- The document's number, arg. -/
import Derived.Test.YthcamokblkjkkaaTC
namespace Go.Proofs.Ythcamokblkjkkaa
open Go Go.RowKit Go.Fol
attribute [local go_sem ↓] Go.wp_at_zero Go.wp_at_succ
attribute [local go_sem ↓] run_min2 run_max2
set_option linter.unusedVariables false
set_option linter.unusedSimpArgs false
theorem Owns.cput {w0 W : World} {R : List Asrt} {b : Nat} {c : Cm} (H : Owns w0 W (cobj b c :: R)) (c' : Cm) (j : Nat) (u : Value) (h : c.cells.setIfInBounds j u = c'.cells) : Owns w0 (W.setCell ⟨b, j, none⟩ u) (cobj b c' :: R) := by
  have := H.set j u
  rw [h] at this
  exact this
section
variable {w0 w : World} {R : List Asrt}
theorem tnumber {ka : Option Addr} {kc : Nat} {l : List Int} (i n : Nat) (hi : i ≤ l.length) (hn : n ≤ 9999) (hb : bytesB l) (hl : l.length ≤ 1000000) (h : SrcV w 1 (.slice ka l.length kc) l.length (kints .u8 l)) :
    Calls Try.prog 36 #[.slice ka l.length kc, .int .i64 i, .int .i64 n] w fun e w' => (∃ (n' i' : Nat), e = .returned (.tuple #[.int .i64 n', .int .i64 i']) ∧ i ≤ i' ∧ i' ≤ l.length ∧ n' ≤ 9999 ∧ numF n (l.drop i) = (n', l.drop i')) ∧ w = w' := by
  have HS := Lib.hid h
  have HB := Lib.hid hb
  clear h hb
  go_enter Try.func36, Try.ntmps36
  go_wp2_with fail
  go_loop [1, 2] (fun q nv => ∃ (j m : Nat), i ≤ j ∧ j ≤ l.length ∧ q = .int .i64 j ∧ nv = .int .i64 m ∧ m ≤ 9999 ∧ numF n (l.drop i) = numF m (l.drop j)) (fun q _ => l.length - (intOf q).toNat)
  case atStart => exact ⟨i, n, Nat.le_refl _, hi, rfl, rfl, hn, rfl⟩
  case round =>
    obtain ⟨j, m, hij, hj, rfl, rfl, hm, hr⟩ := hrel
    by_cases hlt : j < l.length
    · obtain ⟨c, hc⟩ : ∃ c, l[j]? = some c := ⟨_, List.getElem?_eq_getElem hlt⟩
      have hcr := HB.out c (List.mem_of_getElem? hc)
      have hc0 : 0 ≤ c := hcr.1
      have hc1 : c ≤ 255 := hcr.2
      obtain ⟨kb, ko, kc', e1, hkc, _, hke⟩ := HS.out.cells (by omega) (by decide)
      cases e1
      have kx : w.cell? ⟨kb, ko + j, none⟩ = some (.int .u8 c) := hke j _ (by simp [kints, hc])
      have hdr : l.drop j = c :: l.drop (j + 1) := by
        obtain ⟨h1, h2⟩ := List.getElem?_eq_some_iff.1 hc
        rw [List.drop_eq_getElem_cons h1, h2]
      rw [hdr] at hr
      by_cases hd : digB (decide (0 < m)) c = true
      · have Hr := Lib.hid (show numF n (l.drop i) = numF (dig m c) (l.drop (j + 1)) by rw [hr, numF, if_pos hd])
        have h48 : 48 ≤ c := by simp [digB] at hd; omega
        have h57 : c ≤ 57 := by simp [digB] at hd; omega
        have hdg : min (10 * (m : Int) + (c - 48)) 9999 = ((dig m c : Nat) : Int) := by unfold dig; omega
        have hdl := dig_le m c
        by_cases h49 : 49 ≤ c
        · have hcj : (j : Int) < (l.length : Int) := by omega
          clear hcr hke hc hdr hr hd hlt
          go_wp2
          go_round
          case rel => exact ⟨j + 1, dig m c, by omega, by omega, by go_num, rfl, hdl, Hr.out⟩
          case measure => simp [intOf]; omega
        · obtain rfl : c = 48 := by omega
          have hm0 : (0 : Int) < (m : Int) := by simp [digB] at hd; omega
          have hdg48 : min (10 * (m : Int)) 9999 = ((dig m 48 : Nat) : Int) := by unfold dig; omega
          have hcj : (j : Int) < (l.length : Int) := by omega
          clear hcr hke hc hdr hr hd hlt hdg
          go_wp2
          go_round
          case rel => exact ⟨j + 1, dig m 48, by omega, by omega, by go_num, rfl, hdl, Hr.out⟩
          case measure => simp [intOf]; omega
      · have hdf : digB (decide (0 < m)) c = false := by simpa using hd
        have Hr := Lib.hid (show numF n (l.drop i) = (m, l.drop j) by rw [hr, numF, if_neg hd, hdr])
        have hno : c < 48 ∨ 57 < c ∨ (c = 48 ∧ m = 0) := by simp [digB] at hdf; omega
        have hcj : (j : Int) < (l.length : Int) := by omega
        clear hcr hke hc hdr hr hd hlt hdf
        rcases hno with h1 | h1 | ⟨rfl, rfl⟩
        · have h2 : ¬ (49 ≤ c) := by omega
          have h3 : (c == 48) = false := by rw [beq_eq_false_iff_ne]; omega
          go_wp2
          go_ret2
          exact ⟨⟨m, j, rfl, hij, hj, hm, Hr.out⟩, rfl⟩
        · have h2 : (49 ≤ c) := by omega
          have h2' : ¬ (c ≤ 57) := by omega
          have h3 : (c == 48) = false := by rw [beq_eq_false_iff_ne]; omega
          go_wp2
          go_ret2
          exact ⟨⟨m, j, rfl, hij, hj, hm, Hr.out⟩, rfl⟩
        · go_wp2
          go_ret2
          exact ⟨⟨0, j, rfl, hij, hj, hm, Hr.out⟩, rfl⟩
    · obtain rfl : j = l.length := by omega
      have Hr := Lib.hid (show numF n (l.drop i) = (m, l.drop l.length) by rw [hr, List.drop_eq_nil_of_le (Nat.le_refl _)]; rfl)
      clear hr
      go_wp2
      go_ret2
      exact ⟨⟨m, l.length, rfl, hij, hj, hm, Hr.out⟩, rfl⟩
/-- A byte of a slice. -/
theorem byte_at {ka : Option Addr} {kc : Nat} {l : List Int} {i : Nat} {x : Int} (hb : bytesB l) (hx : l[i]? = some x) (h : Reads w0 R 1 (.slice ka l.length kc) l.length (kints .u8 l)) (H : Owns w0 w R) :
    ∃ b o, ka = some ⟨b, o, none⟩ ∧ l.length ≤ kc ∧ 0 ≤ x ∧ x ≤ 255 ∧ ∀ W, Owns w0 W R → W.cell? ⟨b, o + i, none⟩ = some (.int .u8 x) := by
  have hlt := (List.getElem?_eq_some_iff.1 hx).1
  have hxb := hb x (List.mem_of_getElem? hx)
  obtain ⟨b, o, c, e, hc, _, hce⟩ := (h w H).cells (by omega) (by decide)
  cases e
  refine ⟨b, o, rfl, hc, hxb.1, hxb.2, fun W hW => ?_⟩
  obtain ⟨b', o', c', e', _, _, hce'⟩ := (h W hW).cells (by omega) (by decide)
  cases e'
  exact hce' i _ (by simp [kints, hx])
set_option maxHeartbeats 1000000 in
theorem targ {ka : Option Addr} {kc : Nat} {x : Int} {l : List Int} (c : Cm) (kind : Int) (hk0 : 0 ≤ kind) (hk3 : kind ≤ 3) (hb : bytesB (x :: l)) (hl : l.length ≤ 100000) (H : Owns w0 w R) (hk : Reads w0 R 1 (.slice ka (x :: l).length kc) (x :: l).length (kints .u8 (x :: l))) :
    Calls Try.prog 61 #[.slice ka (x :: l).length kc, .agg c.cells, .int .i64 kind] w (Ret (.tuple #[.int .i64 (argT c kind l).1, .agg (argT c kind l).2.cells]) w0 R) := by
  obtain ⟨rr, rc, hr⟩ : ∃ rr rc, argT c kind l = (rr, rc) := ⟨_, _, rfl⟩
  rw [hr]
  dsimp only
  have Hr := Lib.hid hr
  clear hr
  cases l with
  | nil =>
    obtain ⟨rfl, rfl⟩ : rr = 0 ∧ rc = czero := by have := Hr.out; cases this; exact ⟨rfl, rfl⟩
    clear Hr hk hb
    obtain ⟨A, hA⟩ : ∃ A, A = w.heap.size := ⟨_, rfl⟩
    obtain ⟨B, hB⟩ : ∃ B, B = w.heap.size + 1 := ⟨_, rfl⟩
    have h1 := (H.alloc c.cells 33).alloc czero.cells 33
    rw [World.size_alloc, ← hB, ← hA] at h1
    obtain ⟨W1, hW1⟩ : ∃ W1, (w.alloc (.cells c.cells 33)).alloc (.cells czero.cells 33) = W1 := ⟨_, rfl⟩
    rw [hW1] at h1
    have HW1 := Lib.hid hW1
    have HA := Lib.hid hA
    have HB := Lib.hid hB
    have H1 := Lib.hid h1
    clear h1 hW1 hA hB H
    go_enter Try.func61, Try.ntmps61
    go_upto_region 1 with (fail)
    rw [show Obj.cells #[Value.int IntKind.u8 0, Value.int IntKind.i64 0, Value.string { data := #[] }, Value.string { data := #[] }, Value.int IntKind.u8 0, Value.string { data := #[] }] 33 = Obj.cells czero.cells 33 from rfl, HW1.out, ← HB.out, ← HA.out]
    clear HW1 HA HB
    go_wp2_with fail
    refine (twait H1.out).mono ?_
    rintro e w9 ⟨rfl, h9⟩
    obtain ⟨q0, q1, q2, q3, q4, q5⟩ := ccells (h9)
    obtain ⟨t0, t1, t2, t3, t4, t5⟩ := cfrozen (h9)
    go_wp2_with fail
    obtain ⟨u0, u1, u2, u3, u4, u5⟩ := csetu (h9) czero
    exact bodyPost_ret (v := .tuple #[.int .i64 0, .agg (czero).cells]) (by (try simp [czero] at u0 u1 u2 u3 u4 u5); simp [results, Try.results61, go_sem, czero, u0, u1, u2, u3, u4, u5]) rfl ⟨rfl, (Owns.cset (h9) czero).drop.drop⟩
  | cons y l =>
    obtain ⟨b, o, rfl, hlc, hy0, hy1, hke⟩ := byte_at (i := 1) (x := y) hb rfl hk H
    have hke2 : ∀ W X, Owns w0 W (X ++ R) → W.cell? ⟨b, o + 1, none⟩ = some (.int .u8 y) := fun W X h => hke W ((h.perm List.perm_append_comm).left)
    obtain ⟨n, hn⟩ : ∃ n, n = (x :: y :: l).length := ⟨_, rfl⟩
    have hn2 : 2 ≤ n := by rw [hn]; simp
    rw [← hn] at hlc ⊢
    have HKE := Lib.hid hke2
    rw [argT] at Hr
    clear hk hke hke2 hb hn
    have hcls : y = 27 ∨ y = 64 ∨ y = 96 ∨ (y < 97 ∧ (y == 27) = false ∧ (y == 64) = false ∧ (y == 96) = false) ∨ ((97 ≤ y ∧ y ≤ 122) ∧ (y == 27) = false ∧ (y == 64) = false ∧ (y == 96) = false) ∨ (122 < y ∧ (y == 27) = false ∧ (y == 64) = false ∧ (y == 96) = false) := by
      simp only [beq_eq_false_iff_ne]
      omega
    have hkind : kind = 0 ∨ kind = 1 ∨ kind = 2 ∨ kind = 3 := by omega
    have hn2' : ¬ ((n : Int) < 2) := by omega
    clear hk0 hk3
    rcases hkind with rfl | rfl | rfl | rfl <;> rcases hcls with rfl | rfl | rfl | ⟨hy97, e27, e64, e96⟩ | ⟨⟨hy97, hy122⟩, e27, e64, e96⟩ | ⟨hy97, e27, e64, e96⟩
    · have hnb : notB 0 27 = true := rfl
      obtain ⟨rfl, rfl⟩ : rr = 2 ∧ rc = czero := by have := Hr.out; rw [if_pos hnb] at this; cases this; exact ⟨rfl, rfl⟩
      clear Hr hnb
      obtain ⟨A, hA⟩ : ∃ A, A = w.heap.size := ⟨_, rfl⟩
      obtain ⟨B, hB⟩ : ∃ B, B = w.heap.size + 1 := ⟨_, rfl⟩
      have h1 := (H.alloc c.cells 33).alloc czero.cells 33
      rw [World.size_alloc, ← hB, ← hA] at h1
      obtain ⟨W1, hW1⟩ : ∃ W1, (w.alloc (.cells c.cells 33)).alloc (.cells czero.cells 33) = W1 := ⟨_, rfl⟩
      rw [hW1] at h1
      have HW1 := Lib.hid hW1
      have HA := Lib.hid hA
      have HB := Lib.hid hB
      have H1 := Lib.hid h1
      clear h1 hW1 hA hB H
      go_enter Try.func61, Try.ntmps61
      go_upto_region 1 with (fail)
      rw [show Obj.cells #[Value.int IntKind.u8 0, Value.int IntKind.i64 0, Value.string { data := #[] }, Value.string { data := #[] }, Value.int IntKind.u8 0, Value.string { data := #[] }] 33 = Obj.cells czero.cells 33 from rfl, HW1.out, ← HB.out, ← HA.out]
      clear HW1 HA HB
      have kx : W1.cell? ⟨b, o + 1, none⟩ = some (.int .u8 27) := HKE.out W1 [_, _] H1.out
      have ka4 : W1.cell? ⟨A, 4, none⟩ = some (.int .u8 c.arg) := H1.out.p1.cell (j := 4) rfl
      have fa4 : W1.frozen? ⟨A, 4, none⟩ = false := H1.out.p1.frozen 4
      go_wp2_with fail
      refine (tbell H1.out).mono ?_
      rintro e w9 ⟨rfl, h9⟩
      obtain ⟨q0, q1, q2, q3, q4, q5⟩ := ccells (h9)
      obtain ⟨t0, t1, t2, t3, t4, t5⟩ := cfrozen (h9)
      go_wp2_with fail
      obtain ⟨u0, u1, u2, u3, u4, u5⟩ := csetu (h9) czero
      exact bodyPost_ret (v := .tuple #[.int .i64 2, .agg (czero).cells]) (by (try simp [czero] at u0 u1 u2 u3 u4 u5); simp [results, Try.results61, go_sem, czero, u0, u1, u2, u3, u4, u5]) rfl ⟨rfl, (Owns.cset (h9) czero).drop.drop⟩
    · have hnb : notB 0 64 = false := rfl
      obtain ⟨rfl, rfl⟩ : rr = 1 ∧ rc = { c with arg := 64 } := by have := Hr.out; rw [if_neg (by rw [hnb]; simp)] at this; cases this; exact ⟨rfl, rfl⟩
      clear Hr hnb
      obtain ⟨A, hA⟩ : ∃ A, A = w.heap.size := ⟨_, rfl⟩
      obtain ⟨B, hB⟩ : ∃ B, B = w.heap.size + 1 := ⟨_, rfl⟩
      have h1 := (H.alloc c.cells 33).alloc czero.cells 33
      rw [World.size_alloc, ← hB, ← hA] at h1
      obtain ⟨W1, hW1⟩ : ∃ W1, (w.alloc (.cells c.cells 33)).alloc (.cells czero.cells 33) = W1 := ⟨_, rfl⟩
      rw [hW1] at h1
      have HW1 := Lib.hid hW1
      have HA := Lib.hid hA
      have HB := Lib.hid hB
      have H1 := Lib.hid h1
      clear h1 hW1 hA hB H
      go_enter Try.func61, Try.ntmps61
      go_upto_region 1 with (fail)
      rw [show Obj.cells #[Value.int IntKind.u8 0, Value.int IntKind.i64 0, Value.string { data := #[] }, Value.string { data := #[] }, Value.int IntKind.u8 0, Value.string { data := #[] }] 33 = Obj.cells czero.cells 33 from rfl, HW1.out, ← HB.out, ← HA.out]
      clear HW1 HA HB
      have kx : W1.cell? ⟨b, o + 1, none⟩ = some (.int .u8 64) := HKE.out W1 [_, _] H1.out
      have ka4 : W1.cell? ⟨A, 4, none⟩ = some (.int .u8 c.arg) := H1.out.p1.cell (j := 4) rfl
      have fa4 : W1.frozen? ⟨A, 4, none⟩ = false := H1.out.p1.frozen 4
      have H2 := Lib.hid (Owns.cput H1.out.p1 { c with arg := 64 } 4 (.int .u8 64) rfl).p1
      clear H1
      obtain ⟨z0, z1, z2, z3, z4, z5⟩ := ccells H2.out.p1
      obtain ⟨q0, q1, q2, q3, q4, q5⟩ := ccells H2.out
      obtain ⟨t0, t1, t2, t3, t4, t5⟩ := cfrozen H2.out
      go_wp2_with fail
      go_region
      all_goals
        go_wp2_with fail
        obtain ⟨u0, u1, u2, u3, u4, u5⟩ := csetu H2.out { c with arg := 64 }
        exact bodyPost_ret (v := .tuple #[.int .i64 1, .agg ({ c with arg := 64 }).cells]) (by simp at u0 u1 u2 u3 u4 u5; simp [results, Try.results61, go_sem, u0, u1, u2, u3, u4, u5]) rfl ⟨rfl, (Owns.cset H2.out { c with arg := 64 }).drew.drop.drop⟩
    · have hnb : notB 0 96 = false := rfl
      obtain ⟨rfl, rfl⟩ : rr = 1 ∧ rc = { c with arg := 96 } := by have := Hr.out; rw [if_neg (by rw [hnb]; simp)] at this; cases this; exact ⟨rfl, rfl⟩
      clear Hr hnb
      obtain ⟨A, hA⟩ : ∃ A, A = w.heap.size := ⟨_, rfl⟩
      obtain ⟨B, hB⟩ : ∃ B, B = w.heap.size + 1 := ⟨_, rfl⟩
      have h1 := (H.alloc c.cells 33).alloc czero.cells 33
      rw [World.size_alloc, ← hB, ← hA] at h1
      obtain ⟨W1, hW1⟩ : ∃ W1, (w.alloc (.cells c.cells 33)).alloc (.cells czero.cells 33) = W1 := ⟨_, rfl⟩
      rw [hW1] at h1
      have HW1 := Lib.hid hW1
      have HA := Lib.hid hA
      have HB := Lib.hid hB
      have H1 := Lib.hid h1
      clear h1 hW1 hA hB H
      go_enter Try.func61, Try.ntmps61
      go_upto_region 1 with (fail)
      rw [show Obj.cells #[Value.int IntKind.u8 0, Value.int IntKind.i64 0, Value.string { data := #[] }, Value.string { data := #[] }, Value.int IntKind.u8 0, Value.string { data := #[] }] 33 = Obj.cells czero.cells 33 from rfl, HW1.out, ← HB.out, ← HA.out]
      clear HW1 HA HB
      have kx : W1.cell? ⟨b, o + 1, none⟩ = some (.int .u8 96) := HKE.out W1 [_, _] H1.out
      have ka4 : W1.cell? ⟨A, 4, none⟩ = some (.int .u8 c.arg) := H1.out.p1.cell (j := 4) rfl
      have fa4 : W1.frozen? ⟨A, 4, none⟩ = false := H1.out.p1.frozen 4
      have H2 := Lib.hid (Owns.cput H1.out.p1 { c with arg := 96 } 4 (.int .u8 96) rfl).p1
      clear H1
      obtain ⟨z0, z1, z2, z3, z4, z5⟩ := ccells H2.out.p1
      obtain ⟨q0, q1, q2, q3, q4, q5⟩ := ccells H2.out
      obtain ⟨t0, t1, t2, t3, t4, t5⟩ := cfrozen H2.out
      go_wp2_with fail
      go_region
      all_goals
        go_wp2_with fail
        obtain ⟨u0, u1, u2, u3, u4, u5⟩ := csetu H2.out { c with arg := 96 }
        exact bodyPost_ret (v := .tuple #[.int .i64 1, .agg ({ c with arg := 96 }).cells]) (by simp at u0 u1 u2 u3 u4 u5; simp [results, Try.results61, go_sem, u0, u1, u2, u3, u4, u5]) rfl ⟨rfl, (Owns.cset H2.out { c with arg := 96 }).drew.drop.drop⟩
    · have hnb : notB 0 y = false := by
        simp [notB, smallB, e27, e64, e96]
        try omega
      obtain ⟨rfl, rfl⟩ : rr = 1 ∧ rc = { c with arg := y } := by have := Hr.out; rw [if_neg (by rw [hnb]; simp)] at this; cases this; exact ⟨rfl, rfl⟩
      clear Hr hnb
      have h97' : ¬ (97 ≤ y) := by omega
      obtain ⟨A, hA⟩ : ∃ A, A = w.heap.size := ⟨_, rfl⟩
      obtain ⟨B, hB⟩ : ∃ B, B = w.heap.size + 1 := ⟨_, rfl⟩
      have h1 := (H.alloc c.cells 33).alloc czero.cells 33
      rw [World.size_alloc, ← hB, ← hA] at h1
      obtain ⟨W1, hW1⟩ : ∃ W1, (w.alloc (.cells c.cells 33)).alloc (.cells czero.cells 33) = W1 := ⟨_, rfl⟩
      rw [hW1] at h1
      have HW1 := Lib.hid hW1
      have HA := Lib.hid hA
      have HB := Lib.hid hB
      have H1 := Lib.hid h1
      clear h1 hW1 hA hB H
      go_enter Try.func61, Try.ntmps61
      go_upto_region 1 with (fail)
      rw [show Obj.cells #[Value.int IntKind.u8 0, Value.int IntKind.i64 0, Value.string { data := #[] }, Value.string { data := #[] }, Value.int IntKind.u8 0, Value.string { data := #[] }] 33 = Obj.cells czero.cells 33 from rfl, HW1.out, ← HB.out, ← HA.out]
      clear HW1 HA HB
      have kx : W1.cell? ⟨b, o + 1, none⟩ = some (.int .u8 y) := HKE.out W1 [_, _] H1.out
      have ka4 : W1.cell? ⟨A, 4, none⟩ = some (.int .u8 c.arg) := H1.out.p1.cell (j := 4) rfl
      have fa4 : W1.frozen? ⟨A, 4, none⟩ = false := H1.out.p1.frozen 4
      have H2 := Lib.hid (Owns.cput H1.out.p1 { c with arg := y } 4 (.int .u8 y) rfl).p1
      clear H1
      obtain ⟨z0, z1, z2, z3, z4, z5⟩ := ccells H2.out.p1
      obtain ⟨q0, q1, q2, q3, q4, q5⟩ := ccells H2.out
      obtain ⟨t0, t1, t2, t3, t4, t5⟩ := cfrozen H2.out
      go_wp2_with fail
      go_region
      all_goals
        go_wp2_with fail
        obtain ⟨u0, u1, u2, u3, u4, u5⟩ := csetu H2.out { c with arg := y }
        exact bodyPost_ret (v := .tuple #[.int .i64 1, .agg ({ c with arg := y }).cells]) (by simp at u0 u1 u2 u3 u4 u5; simp [results, Try.results61, go_sem, u0, u1, u2, u3, u4, u5]) rfl ⟨rfl, (Owns.cset H2.out { c with arg := y }).drew.drop.drop⟩
    · have hnb : notB 0 y = false := by
        simp [notB, smallB, e27, e64, e96]
        try omega
      obtain ⟨rfl, rfl⟩ : rr = 1 ∧ rc = { c with arg := y } := by have := Hr.out; rw [if_neg (by rw [hnb]; simp)] at this; cases this; exact ⟨rfl, rfl⟩
      clear Hr hnb
      obtain ⟨A, hA⟩ : ∃ A, A = w.heap.size := ⟨_, rfl⟩
      obtain ⟨B, hB⟩ : ∃ B, B = w.heap.size + 1 := ⟨_, rfl⟩
      have h1 := (H.alloc c.cells 33).alloc czero.cells 33
      rw [World.size_alloc, ← hB, ← hA] at h1
      obtain ⟨W1, hW1⟩ : ∃ W1, (w.alloc (.cells c.cells 33)).alloc (.cells czero.cells 33) = W1 := ⟨_, rfl⟩
      rw [hW1] at h1
      have HW1 := Lib.hid hW1
      have HA := Lib.hid hA
      have HB := Lib.hid hB
      have H1 := Lib.hid h1
      clear h1 hW1 hA hB H
      go_enter Try.func61, Try.ntmps61
      go_upto_region 1 with (fail)
      rw [show Obj.cells #[Value.int IntKind.u8 0, Value.int IntKind.i64 0, Value.string { data := #[] }, Value.string { data := #[] }, Value.int IntKind.u8 0, Value.string { data := #[] }] 33 = Obj.cells czero.cells 33 from rfl, HW1.out, ← HB.out, ← HA.out]
      clear HW1 HA HB
      have kx : W1.cell? ⟨b, o + 1, none⟩ = some (.int .u8 y) := HKE.out W1 [_, _] H1.out
      have ka4 : W1.cell? ⟨A, 4, none⟩ = some (.int .u8 c.arg) := H1.out.p1.cell (j := 4) rfl
      have fa4 : W1.frozen? ⟨A, 4, none⟩ = false := H1.out.p1.frozen 4
      have H2 := Lib.hid (Owns.cput H1.out.p1 { c with arg := y } 4 (.int .u8 y) rfl).p1
      clear H1
      obtain ⟨z0, z1, z2, z3, z4, z5⟩ := ccells H2.out.p1
      obtain ⟨q0, q1, q2, q3, q4, q5⟩ := ccells H2.out
      obtain ⟨t0, t1, t2, t3, t4, t5⟩ := cfrozen H2.out
      go_wp2_with fail
      go_region
      all_goals
        go_wp2_with fail
        obtain ⟨u0, u1, u2, u3, u4, u5⟩ := csetu H2.out { c with arg := y }
        exact bodyPost_ret (v := .tuple #[.int .i64 1, .agg ({ c with arg := y }).cells]) (by simp at u0 u1 u2 u3 u4 u5; simp [results, Try.results61, go_sem, u0, u1, u2, u3, u4, u5]) rfl ⟨rfl, (Owns.cset H2.out { c with arg := y }).drew.drop.drop⟩
    · have hnb : notB 0 y = false := by
        simp [notB, smallB, e27, e64, e96]
        try omega
      obtain ⟨rfl, rfl⟩ : rr = 1 ∧ rc = { c with arg := y } := by have := Hr.out; rw [if_neg (by rw [hnb]; simp)] at this; cases this; exact ⟨rfl, rfl⟩
      clear Hr hnb
      have h97' : (97 ≤ y) := by omega
      have h122' : ¬ (y ≤ 122) := by omega
      obtain ⟨A, hA⟩ : ∃ A, A = w.heap.size := ⟨_, rfl⟩
      obtain ⟨B, hB⟩ : ∃ B, B = w.heap.size + 1 := ⟨_, rfl⟩
      have h1 := (H.alloc c.cells 33).alloc czero.cells 33
      rw [World.size_alloc, ← hB, ← hA] at h1
      obtain ⟨W1, hW1⟩ : ∃ W1, (w.alloc (.cells c.cells 33)).alloc (.cells czero.cells 33) = W1 := ⟨_, rfl⟩
      rw [hW1] at h1
      have HW1 := Lib.hid hW1
      have HA := Lib.hid hA
      have HB := Lib.hid hB
      have H1 := Lib.hid h1
      clear h1 hW1 hA hB H
      go_enter Try.func61, Try.ntmps61
      go_upto_region 1 with (fail)
      rw [show Obj.cells #[Value.int IntKind.u8 0, Value.int IntKind.i64 0, Value.string { data := #[] }, Value.string { data := #[] }, Value.int IntKind.u8 0, Value.string { data := #[] }] 33 = Obj.cells czero.cells 33 from rfl, HW1.out, ← HB.out, ← HA.out]
      clear HW1 HA HB
      have kx : W1.cell? ⟨b, o + 1, none⟩ = some (.int .u8 y) := HKE.out W1 [_, _] H1.out
      have ka4 : W1.cell? ⟨A, 4, none⟩ = some (.int .u8 c.arg) := H1.out.p1.cell (j := 4) rfl
      have fa4 : W1.frozen? ⟨A, 4, none⟩ = false := H1.out.p1.frozen 4
      have H2 := Lib.hid (Owns.cput H1.out.p1 { c with arg := y } 4 (.int .u8 y) rfl).p1
      clear H1
      obtain ⟨z0, z1, z2, z3, z4, z5⟩ := ccells H2.out.p1
      obtain ⟨q0, q1, q2, q3, q4, q5⟩ := ccells H2.out
      obtain ⟨t0, t1, t2, t3, t4, t5⟩ := cfrozen H2.out
      go_wp2_with fail
      go_region
      all_goals
        go_wp2_with fail
        obtain ⟨u0, u1, u2, u3, u4, u5⟩ := csetu H2.out { c with arg := y }
        exact bodyPost_ret (v := .tuple #[.int .i64 1, .agg ({ c with arg := y }).cells]) (by simp at u0 u1 u2 u3 u4 u5; simp [results, Try.results61, go_sem, u0, u1, u2, u3, u4, u5]) rfl ⟨rfl, (Owns.cset H2.out { c with arg := y }).drew.drop.drop⟩
    · have hnb : notB 1 27 = true := rfl
      obtain ⟨rfl, rfl⟩ : rr = 2 ∧ rc = czero := by have := Hr.out; rw [if_pos hnb] at this; cases this; exact ⟨rfl, rfl⟩
      clear Hr hnb
      obtain ⟨A, hA⟩ : ∃ A, A = w.heap.size := ⟨_, rfl⟩
      obtain ⟨B, hB⟩ : ∃ B, B = w.heap.size + 1 := ⟨_, rfl⟩
      have h1 := (H.alloc c.cells 33).alloc czero.cells 33
      rw [World.size_alloc, ← hB, ← hA] at h1
      obtain ⟨W1, hW1⟩ : ∃ W1, (w.alloc (.cells c.cells 33)).alloc (.cells czero.cells 33) = W1 := ⟨_, rfl⟩
      rw [hW1] at h1
      have HW1 := Lib.hid hW1
      have HA := Lib.hid hA
      have HB := Lib.hid hB
      have H1 := Lib.hid h1
      clear h1 hW1 hA hB H
      go_enter Try.func61, Try.ntmps61
      go_upto_region 1 with (fail)
      rw [show Obj.cells #[Value.int IntKind.u8 0, Value.int IntKind.i64 0, Value.string { data := #[] }, Value.string { data := #[] }, Value.int IntKind.u8 0, Value.string { data := #[] }] 33 = Obj.cells czero.cells 33 from rfl, HW1.out, ← HB.out, ← HA.out]
      clear HW1 HA HB
      have kx : W1.cell? ⟨b, o + 1, none⟩ = some (.int .u8 27) := HKE.out W1 [_, _] H1.out
      have ka4 : W1.cell? ⟨A, 4, none⟩ = some (.int .u8 c.arg) := H1.out.p1.cell (j := 4) rfl
      have fa4 : W1.frozen? ⟨A, 4, none⟩ = false := H1.out.p1.frozen 4
      go_wp2_with fail
      refine (tbell H1.out).mono ?_
      rintro e w9 ⟨rfl, h9⟩
      obtain ⟨q0, q1, q2, q3, q4, q5⟩ := ccells (h9)
      obtain ⟨t0, t1, t2, t3, t4, t5⟩ := cfrozen (h9)
      go_wp2_with fail
      obtain ⟨u0, u1, u2, u3, u4, u5⟩ := csetu (h9) czero
      exact bodyPost_ret (v := .tuple #[.int .i64 2, .agg (czero).cells]) (by (try simp [czero] at u0 u1 u2 u3 u4 u5); simp [results, Try.results61, go_sem, czero, u0, u1, u2, u3, u4, u5]) rfl ⟨rfl, (Owns.cset (h9) czero).drop.drop⟩
    · have hnb : notB 1 64 = true := rfl
      obtain ⟨rfl, rfl⟩ : rr = 2 ∧ rc = czero := by have := Hr.out; rw [if_pos hnb] at this; cases this; exact ⟨rfl, rfl⟩
      clear Hr hnb
      obtain ⟨A, hA⟩ : ∃ A, A = w.heap.size := ⟨_, rfl⟩
      obtain ⟨B, hB⟩ : ∃ B, B = w.heap.size + 1 := ⟨_, rfl⟩
      have h1 := (H.alloc c.cells 33).alloc czero.cells 33
      rw [World.size_alloc, ← hB, ← hA] at h1
      obtain ⟨W1, hW1⟩ : ∃ W1, (w.alloc (.cells c.cells 33)).alloc (.cells czero.cells 33) = W1 := ⟨_, rfl⟩
      rw [hW1] at h1
      have HW1 := Lib.hid hW1
      have HA := Lib.hid hA
      have HB := Lib.hid hB
      have H1 := Lib.hid h1
      clear h1 hW1 hA hB H
      go_enter Try.func61, Try.ntmps61
      go_upto_region 1 with (fail)
      rw [show Obj.cells #[Value.int IntKind.u8 0, Value.int IntKind.i64 0, Value.string { data := #[] }, Value.string { data := #[] }, Value.int IntKind.u8 0, Value.string { data := #[] }] 33 = Obj.cells czero.cells 33 from rfl, HW1.out, ← HB.out, ← HA.out]
      clear HW1 HA HB
      have kx : W1.cell? ⟨b, o + 1, none⟩ = some (.int .u8 64) := HKE.out W1 [_, _] H1.out
      have ka4 : W1.cell? ⟨A, 4, none⟩ = some (.int .u8 c.arg) := H1.out.p1.cell (j := 4) rfl
      have fa4 : W1.frozen? ⟨A, 4, none⟩ = false := H1.out.p1.frozen 4
      go_wp2_with fail
      refine (tbell H1.out).mono ?_
      rintro e w9 ⟨rfl, h9⟩
      obtain ⟨q0, q1, q2, q3, q4, q5⟩ := ccells (h9)
      obtain ⟨t0, t1, t2, t3, t4, t5⟩ := cfrozen (h9)
      go_wp2_with fail
      obtain ⟨u0, u1, u2, u3, u4, u5⟩ := csetu (h9) czero
      exact bodyPost_ret (v := .tuple #[.int .i64 2, .agg (czero).cells]) (by (try simp [czero] at u0 u1 u2 u3 u4 u5); simp [results, Try.results61, go_sem, czero, u0, u1, u2, u3, u4, u5]) rfl ⟨rfl, (Owns.cset (h9) czero).drop.drop⟩
    · have hnb : notB 1 96 = true := rfl
      obtain ⟨rfl, rfl⟩ : rr = 2 ∧ rc = czero := by have := Hr.out; rw [if_pos hnb] at this; cases this; exact ⟨rfl, rfl⟩
      clear Hr hnb
      obtain ⟨A, hA⟩ : ∃ A, A = w.heap.size := ⟨_, rfl⟩
      obtain ⟨B, hB⟩ : ∃ B, B = w.heap.size + 1 := ⟨_, rfl⟩
      have h1 := (H.alloc c.cells 33).alloc czero.cells 33
      rw [World.size_alloc, ← hB, ← hA] at h1
      obtain ⟨W1, hW1⟩ : ∃ W1, (w.alloc (.cells c.cells 33)).alloc (.cells czero.cells 33) = W1 := ⟨_, rfl⟩
      rw [hW1] at h1
      have HW1 := Lib.hid hW1
      have HA := Lib.hid hA
      have HB := Lib.hid hB
      have H1 := Lib.hid h1
      clear h1 hW1 hA hB H
      go_enter Try.func61, Try.ntmps61
      go_upto_region 1 with (fail)
      rw [show Obj.cells #[Value.int IntKind.u8 0, Value.int IntKind.i64 0, Value.string { data := #[] }, Value.string { data := #[] }, Value.int IntKind.u8 0, Value.string { data := #[] }] 33 = Obj.cells czero.cells 33 from rfl, HW1.out, ← HB.out, ← HA.out]
      clear HW1 HA HB
      have kx : W1.cell? ⟨b, o + 1, none⟩ = some (.int .u8 96) := HKE.out W1 [_, _] H1.out
      have ka4 : W1.cell? ⟨A, 4, none⟩ = some (.int .u8 c.arg) := H1.out.p1.cell (j := 4) rfl
      have fa4 : W1.frozen? ⟨A, 4, none⟩ = false := H1.out.p1.frozen 4
      go_wp2_with fail
      refine (tbell H1.out).mono ?_
      rintro e w9 ⟨rfl, h9⟩
      obtain ⟨q0, q1, q2, q3, q4, q5⟩ := ccells (h9)
      obtain ⟨t0, t1, t2, t3, t4, t5⟩ := cfrozen (h9)
      go_wp2_with fail
      obtain ⟨u0, u1, u2, u3, u4, u5⟩ := csetu (h9) czero
      exact bodyPost_ret (v := .tuple #[.int .i64 2, .agg (czero).cells]) (by (try simp [czero] at u0 u1 u2 u3 u4 u5); simp [results, Try.results61, go_sem, czero, u0, u1, u2, u3, u4, u5]) rfl ⟨rfl, (Owns.cset (h9) czero).drop.drop⟩
    · have hnb : notB 1 y = true := by
        simp [notB, smallB, e27, e64, e96]
        try omega
      obtain ⟨rfl, rfl⟩ : rr = 2 ∧ rc = czero := by have := Hr.out; rw [if_pos hnb] at this; cases this; exact ⟨rfl, rfl⟩
      clear Hr hnb
      have h97' : ¬ (97 ≤ y) := by omega
      obtain ⟨A, hA⟩ : ∃ A, A = w.heap.size := ⟨_, rfl⟩
      obtain ⟨B, hB⟩ : ∃ B, B = w.heap.size + 1 := ⟨_, rfl⟩
      have h1 := (H.alloc c.cells 33).alloc czero.cells 33
      rw [World.size_alloc, ← hB, ← hA] at h1
      obtain ⟨W1, hW1⟩ : ∃ W1, (w.alloc (.cells c.cells 33)).alloc (.cells czero.cells 33) = W1 := ⟨_, rfl⟩
      rw [hW1] at h1
      have HW1 := Lib.hid hW1
      have HA := Lib.hid hA
      have HB := Lib.hid hB
      have H1 := Lib.hid h1
      clear h1 hW1 hA hB H
      go_enter Try.func61, Try.ntmps61
      go_upto_region 1 with (fail)
      rw [show Obj.cells #[Value.int IntKind.u8 0, Value.int IntKind.i64 0, Value.string { data := #[] }, Value.string { data := #[] }, Value.int IntKind.u8 0, Value.string { data := #[] }] 33 = Obj.cells czero.cells 33 from rfl, HW1.out, ← HB.out, ← HA.out]
      clear HW1 HA HB
      have kx : W1.cell? ⟨b, o + 1, none⟩ = some (.int .u8 y) := HKE.out W1 [_, _] H1.out
      have ka4 : W1.cell? ⟨A, 4, none⟩ = some (.int .u8 c.arg) := H1.out.p1.cell (j := 4) rfl
      have fa4 : W1.frozen? ⟨A, 4, none⟩ = false := H1.out.p1.frozen 4
      go_wp2_with fail
      refine (tbell H1.out).mono ?_
      rintro e w9 ⟨rfl, h9⟩
      obtain ⟨q0, q1, q2, q3, q4, q5⟩ := ccells (h9)
      obtain ⟨t0, t1, t2, t3, t4, t5⟩ := cfrozen (h9)
      go_wp2_with fail
      obtain ⟨u0, u1, u2, u3, u4, u5⟩ := csetu (h9) czero
      exact bodyPost_ret (v := .tuple #[.int .i64 2, .agg (czero).cells]) (by (try simp [czero] at u0 u1 u2 u3 u4 u5); simp [results, Try.results61, go_sem, czero, u0, u1, u2, u3, u4, u5]) rfl ⟨rfl, (Owns.cset (h9) czero).drop.drop⟩
    · have hnb : notB 1 y = false := by
        simp [notB, smallB, e27, e64, e96]
        try omega
      obtain ⟨rfl, rfl⟩ : rr = 1 ∧ rc = { c with arg := y } := by have := Hr.out; rw [if_neg (by rw [hnb]; simp)] at this; cases this; exact ⟨rfl, rfl⟩
      clear Hr hnb
      obtain ⟨A, hA⟩ : ∃ A, A = w.heap.size := ⟨_, rfl⟩
      obtain ⟨B, hB⟩ : ∃ B, B = w.heap.size + 1 := ⟨_, rfl⟩
      have h1 := (H.alloc c.cells 33).alloc czero.cells 33
      rw [World.size_alloc, ← hB, ← hA] at h1
      obtain ⟨W1, hW1⟩ : ∃ W1, (w.alloc (.cells c.cells 33)).alloc (.cells czero.cells 33) = W1 := ⟨_, rfl⟩
      rw [hW1] at h1
      have HW1 := Lib.hid hW1
      have HA := Lib.hid hA
      have HB := Lib.hid hB
      have H1 := Lib.hid h1
      clear h1 hW1 hA hB H
      go_enter Try.func61, Try.ntmps61
      go_upto_region 1 with (fail)
      rw [show Obj.cells #[Value.int IntKind.u8 0, Value.int IntKind.i64 0, Value.string { data := #[] }, Value.string { data := #[] }, Value.int IntKind.u8 0, Value.string { data := #[] }] 33 = Obj.cells czero.cells 33 from rfl, HW1.out, ← HB.out, ← HA.out]
      clear HW1 HA HB
      have kx : W1.cell? ⟨b, o + 1, none⟩ = some (.int .u8 y) := HKE.out W1 [_, _] H1.out
      have ka4 : W1.cell? ⟨A, 4, none⟩ = some (.int .u8 c.arg) := H1.out.p1.cell (j := 4) rfl
      have fa4 : W1.frozen? ⟨A, 4, none⟩ = false := H1.out.p1.frozen 4
      have H2 := Lib.hid (Owns.cput H1.out.p1 { c with arg := y } 4 (.int .u8 y) rfl).p1
      clear H1
      obtain ⟨z0, z1, z2, z3, z4, z5⟩ := ccells H2.out.p1
      obtain ⟨q0, q1, q2, q3, q4, q5⟩ := ccells H2.out
      obtain ⟨t0, t1, t2, t3, t4, t5⟩ := cfrozen H2.out
      go_wp2_with fail
      go_region
      all_goals
        go_wp2_with fail
        obtain ⟨u0, u1, u2, u3, u4, u5⟩ := csetu H2.out { c with arg := y }
        exact bodyPost_ret (v := .tuple #[.int .i64 1, .agg ({ c with arg := y }).cells]) (by simp at u0 u1 u2 u3 u4 u5; simp [results, Try.results61, go_sem, u0, u1, u2, u3, u4, u5]) rfl ⟨rfl, (Owns.cset H2.out { c with arg := y }).drew.drop.drop⟩
    · have hnb : notB 1 y = true := by
        simp [notB, smallB, e27, e64, e96]
        try omega
      obtain ⟨rfl, rfl⟩ : rr = 2 ∧ rc = czero := by have := Hr.out; rw [if_pos hnb] at this; cases this; exact ⟨rfl, rfl⟩
      clear Hr hnb
      have h97' : (97 ≤ y) := by omega
      have h122' : ¬ (y ≤ 122) := by omega
      obtain ⟨A, hA⟩ : ∃ A, A = w.heap.size := ⟨_, rfl⟩
      obtain ⟨B, hB⟩ : ∃ B, B = w.heap.size + 1 := ⟨_, rfl⟩
      have h1 := (H.alloc c.cells 33).alloc czero.cells 33
      rw [World.size_alloc, ← hB, ← hA] at h1
      obtain ⟨W1, hW1⟩ : ∃ W1, (w.alloc (.cells c.cells 33)).alloc (.cells czero.cells 33) = W1 := ⟨_, rfl⟩
      rw [hW1] at h1
      have HW1 := Lib.hid hW1
      have HA := Lib.hid hA
      have HB := Lib.hid hB
      have H1 := Lib.hid h1
      clear h1 hW1 hA hB H
      go_enter Try.func61, Try.ntmps61
      go_upto_region 1 with (fail)
      rw [show Obj.cells #[Value.int IntKind.u8 0, Value.int IntKind.i64 0, Value.string { data := #[] }, Value.string { data := #[] }, Value.int IntKind.u8 0, Value.string { data := #[] }] 33 = Obj.cells czero.cells 33 from rfl, HW1.out, ← HB.out, ← HA.out]
      clear HW1 HA HB
      have kx : W1.cell? ⟨b, o + 1, none⟩ = some (.int .u8 y) := HKE.out W1 [_, _] H1.out
      have ka4 : W1.cell? ⟨A, 4, none⟩ = some (.int .u8 c.arg) := H1.out.p1.cell (j := 4) rfl
      have fa4 : W1.frozen? ⟨A, 4, none⟩ = false := H1.out.p1.frozen 4
      go_wp2_with fail
      refine (tbell H1.out).mono ?_
      rintro e w9 ⟨rfl, h9⟩
      obtain ⟨q0, q1, q2, q3, q4, q5⟩ := ccells (h9)
      obtain ⟨t0, t1, t2, t3, t4, t5⟩ := cfrozen (h9)
      go_wp2_with fail
      obtain ⟨u0, u1, u2, u3, u4, u5⟩ := csetu (h9) czero
      exact bodyPost_ret (v := .tuple #[.int .i64 2, .agg (czero).cells]) (by (try simp [czero] at u0 u1 u2 u3 u4 u5); simp [results, Try.results61, go_sem, czero, u0, u1, u2, u3, u4, u5]) rfl ⟨rfl, (Owns.cset (h9) czero).drop.drop⟩
    · have hnb : notB 2 27 = true := rfl
      obtain ⟨rfl, rfl⟩ : rr = 2 ∧ rc = czero := by have := Hr.out; rw [if_pos hnb] at this; cases this; exact ⟨rfl, rfl⟩
      clear Hr hnb
      obtain ⟨A, hA⟩ : ∃ A, A = w.heap.size := ⟨_, rfl⟩
      obtain ⟨B, hB⟩ : ∃ B, B = w.heap.size + 1 := ⟨_, rfl⟩
      have h1 := (H.alloc c.cells 33).alloc czero.cells 33
      rw [World.size_alloc, ← hB, ← hA] at h1
      obtain ⟨W1, hW1⟩ : ∃ W1, (w.alloc (.cells c.cells 33)).alloc (.cells czero.cells 33) = W1 := ⟨_, rfl⟩
      rw [hW1] at h1
      have HW1 := Lib.hid hW1
      have HA := Lib.hid hA
      have HB := Lib.hid hB
      have H1 := Lib.hid h1
      clear h1 hW1 hA hB H
      go_enter Try.func61, Try.ntmps61
      go_upto_region 1 with (fail)
      rw [show Obj.cells #[Value.int IntKind.u8 0, Value.int IntKind.i64 0, Value.string { data := #[] }, Value.string { data := #[] }, Value.int IntKind.u8 0, Value.string { data := #[] }] 33 = Obj.cells czero.cells 33 from rfl, HW1.out, ← HB.out, ← HA.out]
      clear HW1 HA HB
      have kx : W1.cell? ⟨b, o + 1, none⟩ = some (.int .u8 27) := HKE.out W1 [_, _] H1.out
      have ka4 : W1.cell? ⟨A, 4, none⟩ = some (.int .u8 c.arg) := H1.out.p1.cell (j := 4) rfl
      have fa4 : W1.frozen? ⟨A, 4, none⟩ = false := H1.out.p1.frozen 4
      go_wp2_with fail
      refine (tbell H1.out).mono ?_
      rintro e w9 ⟨rfl, h9⟩
      obtain ⟨q0, q1, q2, q3, q4, q5⟩ := ccells (h9)
      obtain ⟨t0, t1, t2, t3, t4, t5⟩ := cfrozen (h9)
      go_wp2_with fail
      obtain ⟨u0, u1, u2, u3, u4, u5⟩ := csetu (h9) czero
      exact bodyPost_ret (v := .tuple #[.int .i64 2, .agg (czero).cells]) (by (try simp [czero] at u0 u1 u2 u3 u4 u5); simp [results, Try.results61, go_sem, czero, u0, u1, u2, u3, u4, u5]) rfl ⟨rfl, (Owns.cset (h9) czero).drop.drop⟩
    · have hnb : notB 2 64 = true := rfl
      obtain ⟨rfl, rfl⟩ : rr = 2 ∧ rc = czero := by have := Hr.out; rw [if_pos hnb] at this; cases this; exact ⟨rfl, rfl⟩
      clear Hr hnb
      obtain ⟨A, hA⟩ : ∃ A, A = w.heap.size := ⟨_, rfl⟩
      obtain ⟨B, hB⟩ : ∃ B, B = w.heap.size + 1 := ⟨_, rfl⟩
      have h1 := (H.alloc c.cells 33).alloc czero.cells 33
      rw [World.size_alloc, ← hB, ← hA] at h1
      obtain ⟨W1, hW1⟩ : ∃ W1, (w.alloc (.cells c.cells 33)).alloc (.cells czero.cells 33) = W1 := ⟨_, rfl⟩
      rw [hW1] at h1
      have HW1 := Lib.hid hW1
      have HA := Lib.hid hA
      have HB := Lib.hid hB
      have H1 := Lib.hid h1
      clear h1 hW1 hA hB H
      go_enter Try.func61, Try.ntmps61
      go_upto_region 1 with (fail)
      rw [show Obj.cells #[Value.int IntKind.u8 0, Value.int IntKind.i64 0, Value.string { data := #[] }, Value.string { data := #[] }, Value.int IntKind.u8 0, Value.string { data := #[] }] 33 = Obj.cells czero.cells 33 from rfl, HW1.out, ← HB.out, ← HA.out]
      clear HW1 HA HB
      have kx : W1.cell? ⟨b, o + 1, none⟩ = some (.int .u8 64) := HKE.out W1 [_, _] H1.out
      have ka4 : W1.cell? ⟨A, 4, none⟩ = some (.int .u8 c.arg) := H1.out.p1.cell (j := 4) rfl
      have fa4 : W1.frozen? ⟨A, 4, none⟩ = false := H1.out.p1.frozen 4
      go_wp2_with fail
      refine (tbell H1.out).mono ?_
      rintro e w9 ⟨rfl, h9⟩
      obtain ⟨q0, q1, q2, q3, q4, q5⟩ := ccells (h9)
      obtain ⟨t0, t1, t2, t3, t4, t5⟩ := cfrozen (h9)
      go_wp2_with fail
      obtain ⟨u0, u1, u2, u3, u4, u5⟩ := csetu (h9) czero
      exact bodyPost_ret (v := .tuple #[.int .i64 2, .agg (czero).cells]) (by (try simp [czero] at u0 u1 u2 u3 u4 u5); simp [results, Try.results61, go_sem, czero, u0, u1, u2, u3, u4, u5]) rfl ⟨rfl, (Owns.cset (h9) czero).drop.drop⟩
    · have hnb : notB 2 96 = false := rfl
      obtain ⟨rfl, rfl⟩ : rr = 1 ∧ rc = { c with arg := 96 } := by have := Hr.out; rw [if_neg (by rw [hnb]; simp)] at this; cases this; exact ⟨rfl, rfl⟩
      clear Hr hnb
      obtain ⟨A, hA⟩ : ∃ A, A = w.heap.size := ⟨_, rfl⟩
      obtain ⟨B, hB⟩ : ∃ B, B = w.heap.size + 1 := ⟨_, rfl⟩
      have h1 := (H.alloc c.cells 33).alloc czero.cells 33
      rw [World.size_alloc, ← hB, ← hA] at h1
      obtain ⟨W1, hW1⟩ : ∃ W1, (w.alloc (.cells c.cells 33)).alloc (.cells czero.cells 33) = W1 := ⟨_, rfl⟩
      rw [hW1] at h1
      have HW1 := Lib.hid hW1
      have HA := Lib.hid hA
      have HB := Lib.hid hB
      have H1 := Lib.hid h1
      clear h1 hW1 hA hB H
      go_enter Try.func61, Try.ntmps61
      go_upto_region 1 with (fail)
      rw [show Obj.cells #[Value.int IntKind.u8 0, Value.int IntKind.i64 0, Value.string { data := #[] }, Value.string { data := #[] }, Value.int IntKind.u8 0, Value.string { data := #[] }] 33 = Obj.cells czero.cells 33 from rfl, HW1.out, ← HB.out, ← HA.out]
      clear HW1 HA HB
      have kx : W1.cell? ⟨b, o + 1, none⟩ = some (.int .u8 96) := HKE.out W1 [_, _] H1.out
      have ka4 : W1.cell? ⟨A, 4, none⟩ = some (.int .u8 c.arg) := H1.out.p1.cell (j := 4) rfl
      have fa4 : W1.frozen? ⟨A, 4, none⟩ = false := H1.out.p1.frozen 4
      have H2 := Lib.hid (Owns.cput H1.out.p1 { c with arg := 96 } 4 (.int .u8 96) rfl).p1
      clear H1
      obtain ⟨z0, z1, z2, z3, z4, z5⟩ := ccells H2.out.p1
      obtain ⟨q0, q1, q2, q3, q4, q5⟩ := ccells H2.out
      obtain ⟨t0, t1, t2, t3, t4, t5⟩ := cfrozen H2.out
      go_wp2_with fail
      go_region
      all_goals
        go_wp2_with fail
        obtain ⟨u0, u1, u2, u3, u4, u5⟩ := csetu H2.out { c with arg := 96 }
        exact bodyPost_ret (v := .tuple #[.int .i64 1, .agg ({ c with arg := 96 }).cells]) (by simp at u0 u1 u2 u3 u4 u5; simp [results, Try.results61, go_sem, u0, u1, u2, u3, u4, u5]) rfl ⟨rfl, (Owns.cset H2.out { c with arg := 96 }).drew.drop.drop⟩
    · have hnb : notB 2 y = true := by
        simp [notB, smallB, e27, e64, e96]
        try omega
      obtain ⟨rfl, rfl⟩ : rr = 2 ∧ rc = czero := by have := Hr.out; rw [if_pos hnb] at this; cases this; exact ⟨rfl, rfl⟩
      clear Hr hnb
      have h97' : ¬ (97 ≤ y) := by omega
      obtain ⟨A, hA⟩ : ∃ A, A = w.heap.size := ⟨_, rfl⟩
      obtain ⟨B, hB⟩ : ∃ B, B = w.heap.size + 1 := ⟨_, rfl⟩
      have h1 := (H.alloc c.cells 33).alloc czero.cells 33
      rw [World.size_alloc, ← hB, ← hA] at h1
      obtain ⟨W1, hW1⟩ : ∃ W1, (w.alloc (.cells c.cells 33)).alloc (.cells czero.cells 33) = W1 := ⟨_, rfl⟩
      rw [hW1] at h1
      have HW1 := Lib.hid hW1
      have HA := Lib.hid hA
      have HB := Lib.hid hB
      have H1 := Lib.hid h1
      clear h1 hW1 hA hB H
      go_enter Try.func61, Try.ntmps61
      go_upto_region 1 with (fail)
      rw [show Obj.cells #[Value.int IntKind.u8 0, Value.int IntKind.i64 0, Value.string { data := #[] }, Value.string { data := #[] }, Value.int IntKind.u8 0, Value.string { data := #[] }] 33 = Obj.cells czero.cells 33 from rfl, HW1.out, ← HB.out, ← HA.out]
      clear HW1 HA HB
      have kx : W1.cell? ⟨b, o + 1, none⟩ = some (.int .u8 y) := HKE.out W1 [_, _] H1.out
      have ka4 : W1.cell? ⟨A, 4, none⟩ = some (.int .u8 c.arg) := H1.out.p1.cell (j := 4) rfl
      have fa4 : W1.frozen? ⟨A, 4, none⟩ = false := H1.out.p1.frozen 4
      go_wp2_with fail
      refine (tbell H1.out).mono ?_
      rintro e w9 ⟨rfl, h9⟩
      obtain ⟨q0, q1, q2, q3, q4, q5⟩ := ccells (h9)
      obtain ⟨t0, t1, t2, t3, t4, t5⟩ := cfrozen (h9)
      go_wp2_with fail
      obtain ⟨u0, u1, u2, u3, u4, u5⟩ := csetu (h9) czero
      exact bodyPost_ret (v := .tuple #[.int .i64 2, .agg (czero).cells]) (by (try simp [czero] at u0 u1 u2 u3 u4 u5); simp [results, Try.results61, go_sem, czero, u0, u1, u2, u3, u4, u5]) rfl ⟨rfl, (Owns.cset (h9) czero).drop.drop⟩
    · have hnb : notB 2 y = false := by
        simp [notB, smallB, e27, e64, e96]
        try omega
      obtain ⟨rfl, rfl⟩ : rr = 1 ∧ rc = { c with arg := y } := by have := Hr.out; rw [if_neg (by rw [hnb]; simp)] at this; cases this; exact ⟨rfl, rfl⟩
      clear Hr hnb
      obtain ⟨A, hA⟩ : ∃ A, A = w.heap.size := ⟨_, rfl⟩
      obtain ⟨B, hB⟩ : ∃ B, B = w.heap.size + 1 := ⟨_, rfl⟩
      have h1 := (H.alloc c.cells 33).alloc czero.cells 33
      rw [World.size_alloc, ← hB, ← hA] at h1
      obtain ⟨W1, hW1⟩ : ∃ W1, (w.alloc (.cells c.cells 33)).alloc (.cells czero.cells 33) = W1 := ⟨_, rfl⟩
      rw [hW1] at h1
      have HW1 := Lib.hid hW1
      have HA := Lib.hid hA
      have HB := Lib.hid hB
      have H1 := Lib.hid h1
      clear h1 hW1 hA hB H
      go_enter Try.func61, Try.ntmps61
      go_upto_region 1 with (fail)
      rw [show Obj.cells #[Value.int IntKind.u8 0, Value.int IntKind.i64 0, Value.string { data := #[] }, Value.string { data := #[] }, Value.int IntKind.u8 0, Value.string { data := #[] }] 33 = Obj.cells czero.cells 33 from rfl, HW1.out, ← HB.out, ← HA.out]
      clear HW1 HA HB
      have kx : W1.cell? ⟨b, o + 1, none⟩ = some (.int .u8 y) := HKE.out W1 [_, _] H1.out
      have ka4 : W1.cell? ⟨A, 4, none⟩ = some (.int .u8 c.arg) := H1.out.p1.cell (j := 4) rfl
      have fa4 : W1.frozen? ⟨A, 4, none⟩ = false := H1.out.p1.frozen 4
      have H2 := Lib.hid (Owns.cput H1.out.p1 { c with arg := y } 4 (.int .u8 y) rfl).p1
      clear H1
      obtain ⟨z0, z1, z2, z3, z4, z5⟩ := ccells H2.out.p1
      obtain ⟨q0, q1, q2, q3, q4, q5⟩ := ccells H2.out
      obtain ⟨t0, t1, t2, t3, t4, t5⟩ := cfrozen H2.out
      go_wp2_with fail
      go_region
      all_goals
        go_wp2_with fail
        obtain ⟨u0, u1, u2, u3, u4, u5⟩ := csetu H2.out { c with arg := y }
        exact bodyPost_ret (v := .tuple #[.int .i64 1, .agg ({ c with arg := y }).cells]) (by simp at u0 u1 u2 u3 u4 u5; simp [results, Try.results61, go_sem, u0, u1, u2, u3, u4, u5]) rfl ⟨rfl, (Owns.cset H2.out { c with arg := y }).drew.drop.drop⟩
    · have hnb : notB 2 y = true := by
        simp [notB, smallB, e27, e64, e96]
        try omega
      obtain ⟨rfl, rfl⟩ : rr = 2 ∧ rc = czero := by have := Hr.out; rw [if_pos hnb] at this; cases this; exact ⟨rfl, rfl⟩
      clear Hr hnb
      have h97' : (97 ≤ y) := by omega
      have h122' : ¬ (y ≤ 122) := by omega
      obtain ⟨A, hA⟩ : ∃ A, A = w.heap.size := ⟨_, rfl⟩
      obtain ⟨B, hB⟩ : ∃ B, B = w.heap.size + 1 := ⟨_, rfl⟩
      have h1 := (H.alloc c.cells 33).alloc czero.cells 33
      rw [World.size_alloc, ← hB, ← hA] at h1
      obtain ⟨W1, hW1⟩ : ∃ W1, (w.alloc (.cells c.cells 33)).alloc (.cells czero.cells 33) = W1 := ⟨_, rfl⟩
      rw [hW1] at h1
      have HW1 := Lib.hid hW1
      have HA := Lib.hid hA
      have HB := Lib.hid hB
      have H1 := Lib.hid h1
      clear h1 hW1 hA hB H
      go_enter Try.func61, Try.ntmps61
      go_upto_region 1 with (fail)
      rw [show Obj.cells #[Value.int IntKind.u8 0, Value.int IntKind.i64 0, Value.string { data := #[] }, Value.string { data := #[] }, Value.int IntKind.u8 0, Value.string { data := #[] }] 33 = Obj.cells czero.cells 33 from rfl, HW1.out, ← HB.out, ← HA.out]
      clear HW1 HA HB
      have kx : W1.cell? ⟨b, o + 1, none⟩ = some (.int .u8 y) := HKE.out W1 [_, _] H1.out
      have ka4 : W1.cell? ⟨A, 4, none⟩ = some (.int .u8 c.arg) := H1.out.p1.cell (j := 4) rfl
      have fa4 : W1.frozen? ⟨A, 4, none⟩ = false := H1.out.p1.frozen 4
      go_wp2_with fail
      refine (tbell H1.out).mono ?_
      rintro e w9 ⟨rfl, h9⟩
      obtain ⟨q0, q1, q2, q3, q4, q5⟩ := ccells (h9)
      obtain ⟨t0, t1, t2, t3, t4, t5⟩ := cfrozen (h9)
      go_wp2_with fail
      obtain ⟨u0, u1, u2, u3, u4, u5⟩ := csetu (h9) czero
      exact bodyPost_ret (v := .tuple #[.int .i64 2, .agg (czero).cells]) (by (try simp [czero] at u0 u1 u2 u3 u4 u5); simp [results, Try.results61, go_sem, czero, u0, u1, u2, u3, u4, u5]) rfl ⟨rfl, (Owns.cset (h9) czero).drop.drop⟩
    · have hnb : notB 3 27 = true := rfl
      obtain ⟨rfl, rfl⟩ : rr = 2 ∧ rc = czero := by have := Hr.out; rw [if_pos hnb] at this; cases this; exact ⟨rfl, rfl⟩
      clear Hr hnb
      obtain ⟨A, hA⟩ : ∃ A, A = w.heap.size := ⟨_, rfl⟩
      obtain ⟨B, hB⟩ : ∃ B, B = w.heap.size + 1 := ⟨_, rfl⟩
      have h1 := (H.alloc c.cells 33).alloc czero.cells 33
      rw [World.size_alloc, ← hB, ← hA] at h1
      obtain ⟨W1, hW1⟩ : ∃ W1, (w.alloc (.cells c.cells 33)).alloc (.cells czero.cells 33) = W1 := ⟨_, rfl⟩
      rw [hW1] at h1
      have HW1 := Lib.hid hW1
      have HA := Lib.hid hA
      have HB := Lib.hid hB
      have H1 := Lib.hid h1
      clear h1 hW1 hA hB H
      go_enter Try.func61, Try.ntmps61
      go_upto_region 1 with (fail)
      rw [show Obj.cells #[Value.int IntKind.u8 0, Value.int IntKind.i64 0, Value.string { data := #[] }, Value.string { data := #[] }, Value.int IntKind.u8 0, Value.string { data := #[] }] 33 = Obj.cells czero.cells 33 from rfl, HW1.out, ← HB.out, ← HA.out]
      clear HW1 HA HB
      have kx : W1.cell? ⟨b, o + 1, none⟩ = some (.int .u8 27) := HKE.out W1 [_, _] H1.out
      have ka4 : W1.cell? ⟨A, 4, none⟩ = some (.int .u8 c.arg) := H1.out.p1.cell (j := 4) rfl
      have fa4 : W1.frozen? ⟨A, 4, none⟩ = false := H1.out.p1.frozen 4
      go_wp2_with fail
      refine (tbell H1.out).mono ?_
      rintro e w9 ⟨rfl, h9⟩
      obtain ⟨q0, q1, q2, q3, q4, q5⟩ := ccells (h9)
      obtain ⟨t0, t1, t2, t3, t4, t5⟩ := cfrozen (h9)
      go_wp2_with fail
      obtain ⟨u0, u1, u2, u3, u4, u5⟩ := csetu (h9) czero
      exact bodyPost_ret (v := .tuple #[.int .i64 2, .agg (czero).cells]) (by (try simp [czero] at u0 u1 u2 u3 u4 u5); simp [results, Try.results61, go_sem, czero, u0, u1, u2, u3, u4, u5]) rfl ⟨rfl, (Owns.cset (h9) czero).drop.drop⟩
    · have hnb : notB 3 64 = false := rfl
      obtain ⟨rfl, rfl⟩ : rr = 1 ∧ rc = { c with arg := 64 } := by have := Hr.out; rw [if_neg (by rw [hnb]; simp)] at this; cases this; exact ⟨rfl, rfl⟩
      clear Hr hnb
      obtain ⟨A, hA⟩ : ∃ A, A = w.heap.size := ⟨_, rfl⟩
      obtain ⟨B, hB⟩ : ∃ B, B = w.heap.size + 1 := ⟨_, rfl⟩
      have h1 := (H.alloc c.cells 33).alloc czero.cells 33
      rw [World.size_alloc, ← hB, ← hA] at h1
      obtain ⟨W1, hW1⟩ : ∃ W1, (w.alloc (.cells c.cells 33)).alloc (.cells czero.cells 33) = W1 := ⟨_, rfl⟩
      rw [hW1] at h1
      have HW1 := Lib.hid hW1
      have HA := Lib.hid hA
      have HB := Lib.hid hB
      have H1 := Lib.hid h1
      clear h1 hW1 hA hB H
      go_enter Try.func61, Try.ntmps61
      go_upto_region 1 with (fail)
      rw [show Obj.cells #[Value.int IntKind.u8 0, Value.int IntKind.i64 0, Value.string { data := #[] }, Value.string { data := #[] }, Value.int IntKind.u8 0, Value.string { data := #[] }] 33 = Obj.cells czero.cells 33 from rfl, HW1.out, ← HB.out, ← HA.out]
      clear HW1 HA HB
      have kx : W1.cell? ⟨b, o + 1, none⟩ = some (.int .u8 64) := HKE.out W1 [_, _] H1.out
      have ka4 : W1.cell? ⟨A, 4, none⟩ = some (.int .u8 c.arg) := H1.out.p1.cell (j := 4) rfl
      have fa4 : W1.frozen? ⟨A, 4, none⟩ = false := H1.out.p1.frozen 4
      have H2 := Lib.hid (Owns.cput H1.out.p1 { c with arg := 64 } 4 (.int .u8 64) rfl).p1
      clear H1
      obtain ⟨z0, z1, z2, z3, z4, z5⟩ := ccells H2.out.p1
      obtain ⟨q0, q1, q2, q3, q4, q5⟩ := ccells H2.out
      obtain ⟨t0, t1, t2, t3, t4, t5⟩ := cfrozen H2.out
      go_wp2_with fail
      go_region
      all_goals
        go_wp2_with fail
        obtain ⟨u0, u1, u2, u3, u4, u5⟩ := csetu H2.out { c with arg := 64 }
        exact bodyPost_ret (v := .tuple #[.int .i64 1, .agg ({ c with arg := 64 }).cells]) (by simp at u0 u1 u2 u3 u4 u5; simp [results, Try.results61, go_sem, u0, u1, u2, u3, u4, u5]) rfl ⟨rfl, (Owns.cset H2.out { c with arg := 64 }).drew.drop.drop⟩
    · have hnb : notB 3 96 = true := rfl
      obtain ⟨rfl, rfl⟩ : rr = 2 ∧ rc = czero := by have := Hr.out; rw [if_pos hnb] at this; cases this; exact ⟨rfl, rfl⟩
      clear Hr hnb
      obtain ⟨A, hA⟩ : ∃ A, A = w.heap.size := ⟨_, rfl⟩
      obtain ⟨B, hB⟩ : ∃ B, B = w.heap.size + 1 := ⟨_, rfl⟩
      have h1 := (H.alloc c.cells 33).alloc czero.cells 33
      rw [World.size_alloc, ← hB, ← hA] at h1
      obtain ⟨W1, hW1⟩ : ∃ W1, (w.alloc (.cells c.cells 33)).alloc (.cells czero.cells 33) = W1 := ⟨_, rfl⟩
      rw [hW1] at h1
      have HW1 := Lib.hid hW1
      have HA := Lib.hid hA
      have HB := Lib.hid hB
      have H1 := Lib.hid h1
      clear h1 hW1 hA hB H
      go_enter Try.func61, Try.ntmps61
      go_upto_region 1 with (fail)
      rw [show Obj.cells #[Value.int IntKind.u8 0, Value.int IntKind.i64 0, Value.string { data := #[] }, Value.string { data := #[] }, Value.int IntKind.u8 0, Value.string { data := #[] }] 33 = Obj.cells czero.cells 33 from rfl, HW1.out, ← HB.out, ← HA.out]
      clear HW1 HA HB
      have kx : W1.cell? ⟨b, o + 1, none⟩ = some (.int .u8 96) := HKE.out W1 [_, _] H1.out
      have ka4 : W1.cell? ⟨A, 4, none⟩ = some (.int .u8 c.arg) := H1.out.p1.cell (j := 4) rfl
      have fa4 : W1.frozen? ⟨A, 4, none⟩ = false := H1.out.p1.frozen 4
      go_wp2_with fail
      refine (tbell H1.out).mono ?_
      rintro e w9 ⟨rfl, h9⟩
      obtain ⟨q0, q1, q2, q3, q4, q5⟩ := ccells (h9)
      obtain ⟨t0, t1, t2, t3, t4, t5⟩ := cfrozen (h9)
      go_wp2_with fail
      obtain ⟨u0, u1, u2, u3, u4, u5⟩ := csetu (h9) czero
      exact bodyPost_ret (v := .tuple #[.int .i64 2, .agg (czero).cells]) (by (try simp [czero] at u0 u1 u2 u3 u4 u5); simp [results, Try.results61, go_sem, czero, u0, u1, u2, u3, u4, u5]) rfl ⟨rfl, (Owns.cset (h9) czero).drop.drop⟩
    · have hnb : notB 3 y = true := by
        simp [notB, smallB, e27, e64, e96]
        try omega
      obtain ⟨rfl, rfl⟩ : rr = 2 ∧ rc = czero := by have := Hr.out; rw [if_pos hnb] at this; cases this; exact ⟨rfl, rfl⟩
      clear Hr hnb
      have h97' : ¬ (97 ≤ y) := by omega
      obtain ⟨A, hA⟩ : ∃ A, A = w.heap.size := ⟨_, rfl⟩
      obtain ⟨B, hB⟩ : ∃ B, B = w.heap.size + 1 := ⟨_, rfl⟩
      have h1 := (H.alloc c.cells 33).alloc czero.cells 33
      rw [World.size_alloc, ← hB, ← hA] at h1
      obtain ⟨W1, hW1⟩ : ∃ W1, (w.alloc (.cells c.cells 33)).alloc (.cells czero.cells 33) = W1 := ⟨_, rfl⟩
      rw [hW1] at h1
      have HW1 := Lib.hid hW1
      have HA := Lib.hid hA
      have HB := Lib.hid hB
      have H1 := Lib.hid h1
      clear h1 hW1 hA hB H
      go_enter Try.func61, Try.ntmps61
      go_upto_region 1 with (fail)
      rw [show Obj.cells #[Value.int IntKind.u8 0, Value.int IntKind.i64 0, Value.string { data := #[] }, Value.string { data := #[] }, Value.int IntKind.u8 0, Value.string { data := #[] }] 33 = Obj.cells czero.cells 33 from rfl, HW1.out, ← HB.out, ← HA.out]
      clear HW1 HA HB
      have kx : W1.cell? ⟨b, o + 1, none⟩ = some (.int .u8 y) := HKE.out W1 [_, _] H1.out
      have ka4 : W1.cell? ⟨A, 4, none⟩ = some (.int .u8 c.arg) := H1.out.p1.cell (j := 4) rfl
      have fa4 : W1.frozen? ⟨A, 4, none⟩ = false := H1.out.p1.frozen 4
      go_wp2_with fail
      refine (tbell H1.out).mono ?_
      rintro e w9 ⟨rfl, h9⟩
      obtain ⟨q0, q1, q2, q3, q4, q5⟩ := ccells (h9)
      obtain ⟨t0, t1, t2, t3, t4, t5⟩ := cfrozen (h9)
      go_wp2_with fail
      obtain ⟨u0, u1, u2, u3, u4, u5⟩ := csetu (h9) czero
      exact bodyPost_ret (v := .tuple #[.int .i64 2, .agg (czero).cells]) (by (try simp [czero] at u0 u1 u2 u3 u4 u5); simp [results, Try.results61, go_sem, czero, u0, u1, u2, u3, u4, u5]) rfl ⟨rfl, (Owns.cset (h9) czero).drop.drop⟩
    · have hnb : notB 3 y = false := by
        simp [notB, smallB, e27, e64, e96]
        try omega
      obtain ⟨rfl, rfl⟩ : rr = 1 ∧ rc = { c with arg := y } := by have := Hr.out; rw [if_neg (by rw [hnb]; simp)] at this; cases this; exact ⟨rfl, rfl⟩
      clear Hr hnb
      obtain ⟨A, hA⟩ : ∃ A, A = w.heap.size := ⟨_, rfl⟩
      obtain ⟨B, hB⟩ : ∃ B, B = w.heap.size + 1 := ⟨_, rfl⟩
      have h1 := (H.alloc c.cells 33).alloc czero.cells 33
      rw [World.size_alloc, ← hB, ← hA] at h1
      obtain ⟨W1, hW1⟩ : ∃ W1, (w.alloc (.cells c.cells 33)).alloc (.cells czero.cells 33) = W1 := ⟨_, rfl⟩
      rw [hW1] at h1
      have HW1 := Lib.hid hW1
      have HA := Lib.hid hA
      have HB := Lib.hid hB
      have H1 := Lib.hid h1
      clear h1 hW1 hA hB H
      go_enter Try.func61, Try.ntmps61
      go_upto_region 1 with (fail)
      rw [show Obj.cells #[Value.int IntKind.u8 0, Value.int IntKind.i64 0, Value.string { data := #[] }, Value.string { data := #[] }, Value.int IntKind.u8 0, Value.string { data := #[] }] 33 = Obj.cells czero.cells 33 from rfl, HW1.out, ← HB.out, ← HA.out]
      clear HW1 HA HB
      have kx : W1.cell? ⟨b, o + 1, none⟩ = some (.int .u8 y) := HKE.out W1 [_, _] H1.out
      have ka4 : W1.cell? ⟨A, 4, none⟩ = some (.int .u8 c.arg) := H1.out.p1.cell (j := 4) rfl
      have fa4 : W1.frozen? ⟨A, 4, none⟩ = false := H1.out.p1.frozen 4
      have H2 := Lib.hid (Owns.cput H1.out.p1 { c with arg := y } 4 (.int .u8 y) rfl).p1
      clear H1
      obtain ⟨z0, z1, z2, z3, z4, z5⟩ := ccells H2.out.p1
      obtain ⟨q0, q1, q2, q3, q4, q5⟩ := ccells H2.out
      obtain ⟨t0, t1, t2, t3, t4, t5⟩ := cfrozen H2.out
      go_wp2_with fail
      go_region
      all_goals
        go_wp2_with fail
        obtain ⟨u0, u1, u2, u3, u4, u5⟩ := csetu H2.out { c with arg := y }
        exact bodyPost_ret (v := .tuple #[.int .i64 1, .agg ({ c with arg := y }).cells]) (by simp at u0 u1 u2 u3 u4 u5; simp [results, Try.results61, go_sem, u0, u1, u2, u3, u4, u5]) rfl ⟨rfl, (Owns.cset H2.out { c with arg := y }).drew.drop.drop⟩
    · have hnb : notB 3 y = true := by
        simp [notB, smallB, e27, e64, e96]
        try omega
      obtain ⟨rfl, rfl⟩ : rr = 2 ∧ rc = czero := by have := Hr.out; rw [if_pos hnb] at this; cases this; exact ⟨rfl, rfl⟩
      clear Hr hnb
      have h97' : (97 ≤ y) := by omega
      have h122' : ¬ (y ≤ 122) := by omega
      obtain ⟨A, hA⟩ : ∃ A, A = w.heap.size := ⟨_, rfl⟩
      obtain ⟨B, hB⟩ : ∃ B, B = w.heap.size + 1 := ⟨_, rfl⟩
      have h1 := (H.alloc c.cells 33).alloc czero.cells 33
      rw [World.size_alloc, ← hB, ← hA] at h1
      obtain ⟨W1, hW1⟩ : ∃ W1, (w.alloc (.cells c.cells 33)).alloc (.cells czero.cells 33) = W1 := ⟨_, rfl⟩
      rw [hW1] at h1
      have HW1 := Lib.hid hW1
      have HA := Lib.hid hA
      have HB := Lib.hid hB
      have H1 := Lib.hid h1
      clear h1 hW1 hA hB H
      go_enter Try.func61, Try.ntmps61
      go_upto_region 1 with (fail)
      rw [show Obj.cells #[Value.int IntKind.u8 0, Value.int IntKind.i64 0, Value.string { data := #[] }, Value.string { data := #[] }, Value.int IntKind.u8 0, Value.string { data := #[] }] 33 = Obj.cells czero.cells 33 from rfl, HW1.out, ← HB.out, ← HA.out]
      clear HW1 HA HB
      have kx : W1.cell? ⟨b, o + 1, none⟩ = some (.int .u8 y) := HKE.out W1 [_, _] H1.out
      have ka4 : W1.cell? ⟨A, 4, none⟩ = some (.int .u8 c.arg) := H1.out.p1.cell (j := 4) rfl
      have fa4 : W1.frozen? ⟨A, 4, none⟩ = false := H1.out.p1.frozen 4
      go_wp2_with fail
      refine (tbell H1.out).mono ?_
      rintro e w9 ⟨rfl, h9⟩
      obtain ⟨q0, q1, q2, q3, q4, q5⟩ := ccells (h9)
      obtain ⟨t0, t1, t2, t3, t4, t5⟩ := cfrozen (h9)
      go_wp2_with fail
      obtain ⟨u0, u1, u2, u3, u4, u5⟩ := csetu (h9) czero
      exact bodyPost_ret (v := .tuple #[.int .i64 2, .agg (czero).cells]) (by (try simp [czero] at u0 u1 u2 u3 u4 u5); simp [results, Try.results61, go_sem, czero, u0, u1, u2, u3, u4, u5]) rfl ⟨rfl, (Owns.cset (h9) czero).drop.drop⟩
end
end Go.Proofs.Ythcamokblkjkkaa
