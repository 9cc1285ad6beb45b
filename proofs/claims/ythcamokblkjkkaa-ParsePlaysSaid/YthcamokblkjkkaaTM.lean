/- The document's parser: Feed; its names of motions. -/
import Derived.Test.YthcamokblkjkkaaTK
import Derived.Test.YthcamokblkjkkaaTL
import Derived.Test.YthcamokblkjkkaaFull
import Derived.Deep.RegionLaw
namespace Go.Proofs.Ythcamokblkjkkaa
open Go Go.RowKit Go.Fol
attribute [local go_sem ↓] Go.wp_at_zero Go.wp_at_succ
set_option linter.unusedVariables false
set_option linter.unusedSimpArgs false
section
variable {w0 w : World} {R : List Asrt}
theorem ttry {ka : Option Addr} {kc : Nat} {l : List Int} (v : Bool) (hb : bytesB l) (hl : l.length ≤ 1000) (H : Owns w0 w R) (hk : Reads w0 R 1 (.slice ka l.length kc) l.length (kints .u8 l)) :
    Calls Try.prog 23 #[.slice ka l.length kc, .bool v] w (Ret (.tuple #[.int .i64 (tryF v l).1, .agg (tryF v l).2.cells]) w0 R) := by
  cases v with
  | true => exact ttry_true hb hl H hk
  | false => exact ttry_false hb hl H hk
theorem tMotion (nm : ByteArray) (w : World) (hsz : nm.size ≤ 1000000) : Calls Try.prog 22 #[.string nm] w fun e w' => e = .returned (.bool (motionB nm.toList)) ∧ w = w' := by
  obtain ⟨b, hb⟩ : ∃ b, b = motionB nm.toList := ⟨_, rfl⟩
  rw [← hb]
  by_cases h1 : nm.size = 1
  · obtain ⟨x, rfl⟩ : ∃ x, nm = ⟨#[x]⟩ := by
      obtain ⟨d⟩ := nm
      obtain ⟨l⟩ := d
      match l, h1 with
      | [x], _ => exact ⟨x, rfl⟩
    have hsi : (((⟨#[x]⟩ : ByteArray).size : Nat) : Int) = 1 := rfl
    rw [ByteArray.toList_eq] at hb
    replace hb : b = motionB [x] := hb
    rw [motionB_one] at hb
    have Hb := Lib.hid hb
    have hx0 : 0 ≤ (x.toNat : Int) := by omega
    have hx1 : (x.toNat : Int) ≤ 255 := by have := x.toNat_lt; omega
    have hix : ∀ w, (Instr.index 9 (.string (⟨#[x]⟩ : ByteArray)) (.int .i64 0)).run Try.prog w = .ok (.int .u8 x.toNat) w := fun w => by
      rw [run_index_string (h := Try.underlying9), dif_pos ⟨by omega, by show (0 : Int) < 1; omega⟩]
      rfl
    clear hb h1 hsz
    go_enter Try.func22, Try.ntmps22
    go_wp2_with fail
    all_goals try exact tf (by assumption) (by assumption)
    all_goals
      have hb := Hb.out
      simp only [*, Bool.true_or, Bool.or_true, Bool.false_or] at hb
    all_goals first | (go_ret; exact ⟨by subst hb; rfl, rfl⟩) | skip
    refine (thas_simple (c := (x.toNat : Int)) hx0 hx1 _).mono ?_
    rintro e w' ⟨rfl, rfl⟩
    subst hb
    clear Hb
    go_wp2_with fail
    go_ret
    exact ⟨rfl, rfl⟩
  · have hsi : ¬ ((nm.size : Int) = 1) := by omega
    have hl : oneB nm.toList = false := by
      unfold oneB
      split
      · rename_i x h
        refine absurd ?_ h1
        rw [ByteArray.toList_eq] at h
        have := congrArg List.length h
        simpa using this
      · rfl
    rw [motionB, hl] at hb
    have Hb := Lib.hid hb
    clear h1 hl hb
    go_enter Try.func22, Try.ntmps22
    go_wp2_with fail
    all_goals try exact tf (by assumption) (by assumption)
    all_goals
      have hb := Hb.out
      simp only [*, Bool.true_or, Bool.or_true, Bool.false_or] at hb
      go_ret
      exact ⟨by subst hb; rfl, rfl⟩
/-- the document's parser. -/
abbrev wobj (p : Nat) (kv : Value) (vis : Bool) : Asrt := Asrt.obj p (.cells #[kv, .bool vis] 31 (0, 0))
theorem SrcV.full {w : World} {k n c : Nat} {a : Option Addr} {xs : List Value} (h : SrcV w k (.slice a n c) n xs) : SrcV w k (.slice a n n) n xs := by
  rcases h with ⟨e, h0, h1⟩ | ⟨b, d, e, h1, h2, h3, h4⟩
  · cases e
    exact .inl ⟨rfl, h0, h1⟩
  · cases e
    exact .inr ⟨b, n, rfl, Nat.le_refl _, by omega, h3, h4⟩
set_option maxHeartbeats 4000000 in
theorem twfeed {p : Nat} {ka : Option Addr} {kc : Nat} {K : List Int} {vis : Bool} {c : Int} (v : Bool) (hc0 : 0 ≤ c) (hc1 : c ≤ 255) (hK : bytesB K) (hKl : K.length ≤ 900) (H : Owns w0 w (wobj p (.slice ka K.length kc) vis :: bsrc (.slice ka K.length kc) K :: R))
    {vis2 : Bool} {K2 : List Int} {r : Int} {cm : Cm} (hvis2 : vis2 = if K = [] then v else vis) (hF : tryF vis2 (K ++ [c]) = (r, cm)) (hK2 : K2 = if r = 0 then K ++ [c] else []) :
    Calls Try.prog 15 #[.pointer (some ⟨p, 0, none⟩), .int .u8 c, .bool v] w fun e w' => e = .returned (.tuple #[.int .i64 r, .agg cm.cells]) ∧ ∃ kv, Owns w0 w' (wobj p kv vis2 :: bsrc kv K2 :: R) := by
  have hkc : K.length ≤ kc := H.p1.src.cap
  have h1 := (H.alloc czero.cells 33).q2
  obtain ⟨n, hn⟩ : ∃ n, n = K.length := ⟨_, rfl⟩
  obtain ⟨B, hB⟩ : ∃ B, B = w.heap.size := ⟨_, rfl⟩
  obtain ⟨W1, hW1⟩ : ∃ W1, w.alloc (.cells czero.cells 33) = W1 := ⟨_, rfl⟩
  rw [hW1, ← hB, bsrc, ← hn] at h1
  rw [← hn] at hkc hKl
  have HW1 := Lib.hid hW1
  have HB := Lib.hid hB
  have H1 := Lib.hid h1
  have Hn := Lib.hid hn
  have HK := Lib.hid hK
  have HF := Lib.hid hF
  clear h1 hW1 hB hn hK H hF
  have Hvis2 := Lib.hid hvis2
  have HK2 := Lib.hid hK2
  clear hvis2 hK2
  have k0 : W1.cell? ⟨p, 0, none⟩ = some (.slice ka n kc) := H1.out.cell (j := 0) rfl
  have k1 : W1.cell? ⟨p, 1, none⟩ = some (.bool vis) := H1.out.cell (j := 1) rfl
  have f1 : W1.frozen? ⟨p, 1, none⟩ = false := H1.out.frozen 1
  go_enter Try.func15, Try.ntmps15
  go_upto_region 1 with (fail)
  rw [show Obj.cells #[Value.int IntKind.u8 0, Value.int IntKind.i64 0, Value.string { data := #[] }, Value.string { data := #[] }, Value.int IntKind.u8 0, Value.string { data := #[] }] 33 = Obj.cells czero.cells 33 from rfl, HW1.out, ← HB.out]
  clear HW1 HB
  go_upto_if 15 with (fail)
  go_cut [6] (fun rv wx => rv = .int .i64 0 ∧ Owns w0 wx (wobj p (.slice ka n kc) vis2 :: Asrt.src 1 (.slice ka n kc) n (kints .u8 K) :: cobj B czero :: R))
  case first =>
    by_cases hK0 : K = []
    · obtain rfl : n = 0 := by rw [Hn.out, hK0]; rfl
      have H2 := Lib.hid (show Owns w0 (W1.setCell ⟨p, 1, none⟩ (.bool v)) (wobj p (.slice ka 0 kc) vis2 :: Asrt.src 1 (.slice ka 0 kc) 0 (kints .u8 K) :: cobj B czero :: R) from by rw [Hvis2.out, if_pos hK0]; exact H1.out.set 1 (.bool v))
      clear hK0
      go_wp2_with fail
      go_meet
      exact ⟨rfl, H2.out⟩
    · have hn0 : ((n : Int) == 0) = false := by
        rw [beq_eq_false_iff_ne]
        intro h
        exact hK0 (List.eq_nil_of_length_eq_zero (by have := Hn.out; omega))
      have H2 := Lib.hid (show Owns w0 W1 (wobj p (.slice ka n kc) vis2 :: Asrt.src 1 (.slice ka n kc) n (kints .u8 K) :: cobj B czero :: R) from by rw [Hvis2.out, if_neg hK0]; exact H1.out)
      clear hK0
      go_wp2_with fail
      go_meet
      exact ⟨rfl, H2.out⟩
  case rest =>
  obtain ⟨rfl, h2⟩ := hcut
  obtain ⟨W2, rfl⟩ : ∃ W2, W2 = wc := ⟨_, rfl⟩
  have H2 := Lib.hid h2
  obtain ⟨n2, hn2⟩ : ∃ n2, n2 = (K ++ [c]).length := ⟨_, rfl⟩
  have hn2n : n2 = n + 1 := by rw [hn2, List.length_append, ← Hn.out]; rfl
  have Hn2 := Lib.hid hn2
  have Hn2n := Lib.hid hn2n
  clear h2 H1 k0 k1 f1 hn2 hn2n
  go_upto_region 3 with (fail)
  go_cut [6] (fun rv wx => rv = .int .i64 0 ∧ ∃ ka' kc', Owns w0 wx (wobj p (.slice ka' n2 kc') vis2 :: Asrt.src 1 (.slice ka' n2 kc') n2 (kints .u8 (K ++ [c])) :: cobj B czero :: R))
  case first =>
    have k0 : W2.cell? ⟨p, 0, none⟩ = some (.slice ka n kc) := H2.out.cell (j := 0) rfl
    have k0a := cell_alloc k0 (.cells #[.int .u8 c] 5)
    have h3 := (H2.out.alloc #[.int .u8 c] 5).drew
    have hs3 := SrcV.full (h3.p2.src)
    have hx3 := Reads.obj (w0 := w0) (R := _) (b := W2.heap.size) (k := 1) (n := 1) (c := 1) (t := 5) (f := (0, 0)) (cs := #[.int .u8 c]) List.mem_cons_self (by decide) (by decide) (by simp) _ h3
    obtain ⟨i0, hi, hz0, hz1, hz2⟩ := info_parts info_byte
    obtain ⟨kv', w4, hrun, h4⟩ := Owns.appFull (P := Try.prog) Try.underlying22 hi hz0 hz1 hz2 rfl (by decide) (a := ka) (n := n) (m := 1) h3 hs3 hx3 (by decide) (by simp [Value.oneCell']) (by unfold maxLen; omega) (by omega)
    have h5 := (((h4.srcOfRow (by decide)).ord [1, 2]).drop.drop).p1
    have e5 : kints .u8 K ++ (#[Value.int .u8 c] : Array Value).toList.take (1 * 1) = kints .u8 (K ++ [c]) := by rw [kints_append]; rfl
    rw [e5, ← Hn2n.out] at h5
    have c0 : w4.cell? ⟨p, 0, none⟩ = some (.slice ka n kc) := h5.cell (j := 0) rfl
    have f0 : w4.frozen? ⟨p, 0, none⟩ = false := h5.frozen 0
    obtain ⟨ka', kc', rfl⟩ := h5.p1.src.form
    have H6 := Lib.hid (show Owns w0 (w4.setCell ⟨p, 0, none⟩ (.slice ka' n2 kc')) (wobj p (.slice ka' n2 kc') vis2 :: Asrt.src 1 (.slice ka' n2 kc') n2 (kints .u8 (K ++ [c])) :: cobj B czero :: R) from h5.set 0 _)
    have hmixed : Try.prog.follows .mixedOrders = true := by kernel_rfl
    have hnk : (n : Int) ≤ (kc : Int) := by omega
    clear h3 hs3 hx3 h4 h5 e5 hi hz0 hz1 hz2 H2
    go_region_law (first | refine step_append_known rfl _ _ 22 22 rfl _ _ (by simp [Act.eval, Act.put]) (by simp [Act.eval, Act.put]) (hrun 22) ?_)
    all_goals
      go_wp2_with fail
      go_meet
      exact ⟨rfl, ka', kc', H6.out⟩
  case rest =>
  obtain ⟨rfl, ka', kc', h6⟩ := hcut
  obtain ⟨W5, rfl⟩ : ∃ W5, W5 = wc := ⟨_, rfl⟩
  have z0 : W5.cell? ⟨p, 0, none⟩ = some (.slice ka' n2 kc') := h6.cell (j := 0) rfl
  have z1 : W5.cell? ⟨p, 1, none⟩ = some (.bool vis2) := h6.cell (j := 1) rfl
  have H6 := Lib.hid h6
  clear h6 H2
  have hbt : bytesB (K ++ [c]) := by
    intro x hx
    rcases List.mem_append.1 hx with h | h
    · exact HK.out x h
    · simp at h; subst h; exact ⟨hc0, hc1⟩
  have hT1 := ttry (ka := ka') (kc := kc') (l := K ++ [c]) vis2 hbt (by rw [← Hn2.out, Hn2n.out]; omega) H6.out.drew (by rw [← Hn2.out]; exact Reads.src (by simp))
  have hT2 := ttry (ka := ka') (kc := kc') (l := K ++ [c]) vis2 hbt (by rw [← Hn2.out, Hn2n.out]; omega) (H6.out.alloc czero.cells 33).drew (by rw [← Hn2.out]; exact Reads.src (by simp))
  rw [HF.out, ← Hn2.out] at hT1 hT2
  dsimp only at hT1 hT2
  have HT1 := Lib.hid hT1
  replace hT2 : Calls Try.prog 23 #[.slice ka' n2 kc', .bool vis2] (W5.alloc (Obj.cells #[Value.int IntKind.u8 0, Value.int IntKind.i64 0, Value.string { data := #[] }, Value.string { data := #[] }, Value.int IntKind.u8 0, Value.string { data := #[] }] 33)).drew (Ret (.tuple #[.int .i64 r, .agg cm.cells]) w0 (cobj W5.heap.size czero :: wobj p (.slice ka' n2 kc') vis2 :: Asrt.src 1 (.slice ka' n2 kc') n2 (kints .u8 (K ++ [c])) :: cobj B czero :: R)) := hT2
  have HT2 := Lib.hid hT2
  have z0a := cell_alloc z0 (Obj.cells #[Value.int IntKind.u8 0, Value.int IntKind.i64 0, Value.string { data := #[] }, Value.string { data := #[] }, Value.int IntKind.u8 0, Value.string { data := #[] }] 33)
  have z1a := cell_alloc z1 (Obj.cells #[Value.int IntKind.u8 0, Value.int IntKind.i64 0, Value.string { data := #[] }, Value.string { data := #[] }, Value.int IntKind.u8 0, Value.string { data := #[] }] 33)
  clear hT1 hT2 hbt
  go_upto_region 4 with (fail)
  go_cut [8, 9] (fun sv bv wx => sv = .int .i64 r ∧ ∃ C : Nat, bv = .pointer (some ⟨C, 0, none⟩) ∧ Owns w0 wx (cobj C cm :: wobj p (.slice ka' n2 kc') vis2 :: Asrt.src 1 (.slice ka' n2 kc') n2 (kints .u8 (K ++ [c])) :: cobj B czero :: R))
  case first =>
    go_region_with (first
      | (go_at_call 23; (with_reducible refine HT1.out.mono ?_); rintro e w7 ⟨rfl, h7⟩)
      | (go_at_call 23; (with_reducible refine HT2.out.mono ?_); rintro e w7 ⟨rfl, h7b⟩; obtain ⟨q0, q1, q2, q3, q4, q5⟩ := ccells h7b; obtain ⟨t0, t1, t2, t3, t4, t5⟩ := cfrozen h7b))
    all_goals
      go_wp2_with fail
      go_meet
      first
        | exact ⟨rfl, _, rfl, Owns.cset h7b cm⟩
        | exact ⟨rfl, _, rfl, h7.alloc cm.cells 33⟩
  case rest =>
  obtain ⟨rfl, C, rfl, h8⟩ := hcut
  obtain ⟨W7, rfl⟩ : ∃ W7, W7 = wc := ⟨_, rfl⟩
  obtain ⟨x0, x1, x2, x3, x4, x5⟩ := ccells h8
  have H8 := Lib.hid h8
  clear h8 HT1 HT2 z0 z1 z0a z1a H6
  by_cases hr0 : r = 0
  · subst hr0
    obtain ⟨q0, q1, q2, q3, q4, q5⟩ := ccells (H8.out.ord [3])
    obtain ⟨t0, t1, t2, t3, t4, t5⟩ := cfrozen (H8.out.ord [3])
    go_upto_region 7 with (fail)
    go_region
    all_goals
      go_wp2_with fail
      obtain ⟨u0, u1, u2, u3, u4, u5⟩ := csetu (H8.out.ord [3]) cm
      refine bodyPost_ret (v := .tuple #[.int .i64 0, .agg cm.cells]) ?_ rfl ⟨rfl, .slice ka' n2 kc', ?_⟩
      rotate_left
      · rw [HK2.out, if_pos trivial, bsrc, ← Hn2.out]
        exact (Owns.cset (H8.out.ord [3]) cm).drew.drop.drop
      · simp [results, Try.results15, go_sem, u0, u1, u2, u3, u4, u5]
  · have e0 : (r == 0) = false := by rw [beq_eq_false_iff_ne]; exact hr0
    have e0' : (r != 0) = true := by simp [hr0]
    have y0 : W7.cell? ⟨p, 0, none⟩ = some (.slice ka' n2 kc') := H8.out.p1.cell (j := 0) rfl
    have g0 : W7.frozen? ⟨p, 0, none⟩ = false := H8.out.p1.frozen 0
    have h9 : Owns w0 (W7.setCell ⟨p, 0, none⟩ (.slice none 0 0)) (cobj B czero :: cobj C cm :: wobj p (.slice none 0 0) vis2 :: Asrt.src 1 (.slice ka' n2 kc') n2 (kints .u8 (K ++ [c])) :: R) := (H8.out.p1.set 0 (.slice none 0 0)).ord [3, 1]
    obtain ⟨W9, hW9⟩ : ∃ W9, W7.setCell ⟨p, 0, none⟩ (.slice none 0 0) = W9 := ⟨_, rfl⟩
    rw [hW9] at h9
    obtain ⟨q0, q1, q2, q3, q4, q5⟩ := ccells h9
    obtain ⟨t0, t1, t2, t3, t4, t5⟩ := cfrozen h9
    obtain ⟨s0, s1, s2, s3, s4, s5⟩ := ccells h9.p1
    have H9 := Lib.hid h9
    have HW9 := Lib.hid hW9
    clear h9 hW9 hr0
    go_upto_region 7 with (fail)
    rw [HW9.out]
    clear HW9
    go_region
    all_goals
      go_wp2_with fail
      obtain ⟨u0, u1, u2, u3, u4, u5⟩ := csetu H9.out cm
      refine bodyPost_ret (v := .tuple #[.int .i64 r, .agg cm.cells]) ?_ rfl ⟨rfl, .slice none 0 0, ?_⟩
      rotate_left
      · rw [HK2.out, if_neg (by simpa using e0)]
        exact ((Owns.cset H9.out cm).drew.drop.drop.p1.drop.srcNil).p1
      · simp [results, Try.results15, go_sem, u0, u1, u2, u3, u4, u5]
end
end Go.Proofs.Ythcamokblkjkkaa
