/- The law ParseSearch on values that read: the walk. -/
import Derived.Test.YthcamokblkjkkaaWsearch
namespace Go.Proofs.Ythcamokblkjkkaa
open Go Go.RowKit Go.Fol
attribute [local go_sem ↓] Go.wp_at_zero Go.wp_at_succ
attribute [local go_sem ↓] run_min2 run_max2
set_option linter.unusedVariables false
set_option linter.unusedSimpArgs false
/-- A byte of a pattern. -/
def plainC (c : Int) : Prop := ¬ c = 13 ∧ ¬ c = 27 ∧ ¬ c = 10 ∧ ¬ c = 8 ∧ ¬ c = 127
theorem typed {nm : Int} (hn : nm = 47 ∨ nm = 63) {l : List Int} (hl : ∀ x ∈ l, plainC x) (h64 : l.length ≤ 64) : ∀ i, i ≤ l.length → ∃ s, Srch s (nm :: l.take i) nm (l.take i) := by
  intro i
  induction i with
  | zero => intro _; simpa using srch_start hn
  | succ i ih =>
    intro hi
    obtain ⟨s, hs⟩ := ih (by omega)
    have hx := hl l[i] (List.getElem_mem (by omega))
    obtain ⟨h13, h27, h10, h8, h127⟩ := hx
    obtain ⟨s', hs'⟩ := hs.type h27 (by simpa using h13) (by simpa using h10) (by simpa using h8) (by simpa using h127) (by simp; omega)
    refine ⟨s', ?_⟩
    rw [List.take_succ_eq_append_getElem (by omega)]
    exact hs'
theorem backs_of {nm : Int} {l : List Int} {s : PSt} (h : Srch s (nm :: l) nm l) : ∀ i, i ≤ l.length → ∃ s, Srch s (nm :: l ++ List.replicate i 8) nm (l.take (l.length - i)) := by
  intro i
  induction i with
  | zero => intro _; exact ⟨s, by simpa using h⟩
  | succ i ih =>
    intro hi
    obtain ⟨s1, hs1⟩ := ih (by omega)
    obtain ⟨s2, hs2⟩ := hs1.back (by simp; omega)
    refine ⟨s2, ?_⟩
    rw [List.replicate_succ', ← List.append_assoc]
    have : (l.take (l.length - i)).take ((l.take (l.length - i)).length - 1) = l.take (l.length - (i + 1)) := by
      rw [List.take_take, List.length_take]
      congr 1
      omega
    rw [this] at hs2
    exact hs2
theorem longs {nm : Int} (hn : nm = 47 ∨ nm = 63) (m : Nat) (h : m ≤ 64) : ∃ s, Srch s (nm :: List.replicate m 97) nm (List.replicate m 97) := by
  have := typed hn (l := List.replicate m 97) (fun x hx => by rw [List.eq_of_mem_replicate hx]; unfold plainC; decide) (by simpa using h) m (by simp)
  simpa using this
set_option maxHeartbeats 4000000 in
set_option maxRecDepth 100000 in
theorem parseSearch_walk (w : World) (v0 v1 v2 v3 : Value) (a0 : Arg Try.prog w 22 v0) (a1 : Arg Try.prog w 5 v1) (a2 : Arg Try.prog w 4 v2) (a3 : Arg Try.prog w 5 v3) :
    Calls Try.prog 9 #[v0, v1, v2, v3] w fun e w' => e = .returned (.bool true) ∧ Below w.heap.size w w' := by
  obtain ⟨l, hl, _, hlw⟩ := arg_kind (kd := .u8) (B := 1) Try.underlying22 Try.underlying5 (by kernel_rfl) (by kernel_rfl) a0
  obtain ⟨backs, rfl, hb⟩ := arg_int Try.underlying5 a1
  obtain ⟨back, rfl⟩ := arg_bool Try.underlying4 a2
  obtain ⟨more, rfl, hm⟩ := arg_int Try.underlying5 a3
  obtain ⟨la, lc, rfl⟩ := hl.form
  have hb0 : 0 ≤ backs := (wf_u8 hb).1
  have hb1 : backs ≤ 255 := (wf_u8 hb).2
  have hm0 : 0 ≤ more := (wf_u8 hm).1
  have hm1 : more ≤ 255 := (wf_u8 hm).2
  obtain ⟨n, hn⟩ : ∃ n, n = l.length := ⟨_, rfl⟩
  have hn63 := hl.n63
  rw [← hn] at hl hn63 ⊢
  have Hl := Lib.hid hl
  have Hlw := Lib.hid hlw
  have Hn := Lib.hid hn
  clear a0 a1 a2 a3 hl hlw hn hb hm
  go_enter Try.func9, Try.ntmps9
  go_wp2_with fail
  refine (known_true (Owns.start w)).mono ?_
  rintro e w1 ⟨rfl, h1⟩
  have H1 := Lib.hid h1
  clear h1
  go_wp2_with fail
  all_goals first | (go_ret; exact ⟨rfl, H1.out.below⟩) | skip
  have hn64 : n ≤ 64 := by omega
  go_loop [9] (fun q => ∃ i : Nat, i ≤ n ∧ q = .int .i64 i ∧ ∀ x ∈ l.take i, plainC x) (fun q => n - (intOf q).toNat)
  case atStart => exact ⟨0, Nat.zero_le _, rfl, by simp⟩
  case round =>
    obtain ⟨i, hi, rfl, hpc⟩ := hrel
    have Hpc := Lib.hid hpc
    clear hpc
    by_cases hlt : i < n
    · obtain ⟨c, hc⟩ : ∃ c, l[i]? = some c := ⟨_, List.getElem?_eq_getElem (by have := Hn.out; omega)⟩
      obtain ⟨kb, ko, kc', e1, hkc, _, hke⟩ := Hl.out.cells (by omega) (by decide)
      cases e1
      have kx : w1.cell? ⟨kb, ko + i, none⟩ = some (.int .u8 c) := H1.out.chg.cell (hke i _ (by simp [kints, hc])) (by simp)
      have hst : l.take (i + 1) = l.take i ++ [c] := by
        obtain ⟨h1, h2⟩ := List.getElem?_eq_some_iff.1 hc
        rw [List.take_succ_eq_append_getElem h1, h2]
      have Hst := Lib.hid hst
      clear hc hke hst
      by_cases hsp : c = 13 ∨ c = 27 ∨ c = 10 ∨ c = 8 ∨ c = 127
      · rcases hsp with rfl | rfl | rfl | rfl | rfl
        all_goals
          go_wp2_with fail
          go_ret
          exact ⟨rfl, H1.out.below⟩
      · have b1 : (c == 13) = false := by rw [beq_eq_false_iff_ne]; omega
        have b2 : (c == 27) = false := by rw [beq_eq_false_iff_ne]; omega
        have b3 : (c == 10) = false := by rw [beq_eq_false_iff_ne]; omega
        have b4 : (c == 8) = false := by rw [beq_eq_false_iff_ne]; omega
        have b5 : (c == 127) = false := by rw [beq_eq_false_iff_ne]; omega
        have Hpl := Lib.hid (show plainC c from ⟨by omega, by omega, by omega, by omega, by omega⟩)
        clear hsp
        go_wp2_with fail
        go_round
        case rel =>
          refine ⟨i + 1, by omega, by go_num, fun x hx => ?_⟩
          rw [Hst.out] at hx
          rcases List.mem_append.1 hx with h | h
          · exact Hpc.out x h
          · simp at h; subst h; exact Hpl.out
        case measure => simp [intOf]; omega
    · obtain rfl : n = i := by omega
      go_upto_if 57 with (fail)
      go_cut [11] (fun v wx => ∃ nm : Int, (nm = 47 ∨ nm = 63) ∧ v = .int .u8 nm ∧ w1 = wx)
      case first =>
        cases back with
        | true =>
          go_wp2_with fail
          go_meet
          exact ⟨63, .inr rfl, rfl, rfl⟩
        | false =>
          go_wp2_with fail
          go_meet
          exact ⟨47, .inl rfl, rfl, rfl⟩
      case rest =>
      obtain ⟨nm, hnm, rfl, rfl⟩ := hcut
      have htk : l.take n = l := List.take_of_length_le (by have := Hn.out; omega)
      have hall := Hpc.out
      rw [htk] at hall
      have hbl : bytesB l := fun x hx => wf_u8 (Hlw.out x hx)
      have hnm0 : 0 ≤ nm := by omega
      have hnm1 : nm ≤ 255 := by omega
      obtain ⟨s0, hs0⟩ := typed hnm hall (by have := Hn.out; omega) l.length (Nat.le_refl _)
      rw [List.take_length] at hs0
      have h3 := (H1.out.alloc #[.int .u8 nm] 5).rowOf (k := 1) 1 1 (Nat.le_refl _) (by decide) rfl
      obtain ⟨kv, w3, hrun, h4⟩ := app_byte (n := 1) (xs := [.int .u8 nm]) (x := .slice la n lc) (m := n) (vs := kints .u8 l) h3 (Reads.old Hl.out) (kints_one _ _) (by unfold maxLen; omega) (by omega)
      have h5 : Owns w w3 [row_byte kv (nm :: l).length (kints .u8 (nm :: l))] := by
        have e : (nm :: l).length = 1 + n := by rw [List.length_cons, ← Hn.out]; omega
        rw [e]
        exact h4
      obtain ⟨nb, hnb⟩ : ∃ nb : Nat, backs % ((n : Int) + 2) = (nb : Int) := Int.eq_ofNat_of_zero_le (Int.emod_nonneg backs (show ((n : Int) + 2) ≠ 0 by omega))
      have hnb2 : nb ≤ n + 1 := by
        have := Int.emod_lt_of_pos backs (show 0 < (n : Int) + 2 by omega)
        rw [hnb] at this
        omega
      have Hnb := Lib.hid hnb
      have Hs0 := Lib.hid hs0
      have Hnm := Lib.hid hnm
      have Hall := Lib.hid hall
      have Hbl := Lib.hid hbl
      have H5 := Lib.hid h5
      clear h3 h4 h5 hnb hs0 hnm hall hbl htk Hpc
      go_wp2_with (at_builtin; refine Lib.wpList_append_run _ rfl _ _ _ _ rfl _ _ rfl rfl _ _ (hrun _) ?_)
      rw [Hnb.out]
      go_loopw [12, 14] (fun kv q wr => ∃ j : Nat, j ≤ nb ∧ q = .int .i64 j ∧ Owns w wr [row_byte kv (nm :: l ++ List.replicate j 8).length (kints .u8 (nm :: l ++ List.replicate j 8))]) (fun _ q _ => nb - (intOf q).toNat)
      case atStart => exact ⟨0, Nat.zero_le _, rfl, by rw [List.replicate_zero, List.append_nil]; exact H5.out⟩
      case round =>
        obtain ⟨j, hj, rfl, h6⟩ := hrel
        have H6 := Lib.hid h6
        obtain ⟨ra, rc, rfl⟩ := row_slice h6.row
        clear h6
        have hlj : (nm :: l ++ List.replicate j 8).length ≤ 200 := by simp; have := Hn.out; omega
        obtain ⟨kl, hkl⟩ : ∃ kl, kl = nm :: l ++ List.replicate j 8 := ⟨_, rfl⟩
        rw [← hkl] at H6 hlj ⊢
        have Hkl := Lib.hid hkl
        clear hkl
        by_cases hlt : j < nb
        · have h7 := (H6.out.alloc #[.int .u8 8] 5).p1
          obtain ⟨kv2, w4, hrun, h8⟩ := app_byte (x := .slice (some ⟨wr.heap.size, 0, none⟩) 1 1) (m := 1) (vs := [.int .u8 8]) h7 (Reads.obj (b := wr.heap.size) (k := 1) (n := 1) (t := 5) (f := (0, 0)) (cs := #[.int .u8 8]) (by simp) (by decide) (by decide) (by simp)) (by simp [Value.oneCell']) (by unfold maxLen; omega) (by omega)
          have h9 : Owns w w4 [row_byte kv2 (kl ++ [8]).length (kints .u8 (kl ++ [8]))] := by
            rw [kints_append, List.length_append]
            exact h8.p1.drop
          have H9 := Lib.hid h9
          clear h7 h8 h9
          go_wp2_with (at_builtin; refine Lib.wpList_append_run _ rfl _ _ _ _ rfl _ _ rfl rfl _ _ (hrun _) ?_)
          go_roundw
          case rel => exact ⟨j + 1, by omega, by go_num, by have := H9.out; rw [Hkl.out] at this; rw [List.replicate_succ', ← List.append_assoc]; exact this⟩
          case measure => simp [intOf]; omega
        · obtain rfl : nb = j := by omega
          have hkb : bytesB kl := by
            intro x hx
            rw [Hkl.out] at hx
            rcases List.mem_append.1 hx with h | h
            · rcases List.mem_cons.1 h with rfl | h
              · exact ⟨hnm0, hnm1⟩
              · exact Hbl.out x h
            · rw [List.eq_of_mem_replicate h]; decide
          have Hkb := Lib.hid hkb
          clear hkb
          by_cases hbell : n < nb
          · have hbell' : (n : Int) < (nb : Int) := by omega
            have hfd : fedL false pzero kl (0, czero) = (2, czero) := by
              obtain ⟨s1, hs1⟩ := backs_of Hs0.out l.length (Nat.le_refl _)
              rw [Nat.sub_self, List.take_zero] at hs1
              have := hs1.under (0, czero)
              rw [Hkl.out, show nb = l.length + 1 by have := Hn.out; omega, List.replicate_succ', ← List.append_assoc]
              exact this
            have HF := Lib.hid (pfed (k := .slice ra kl.length rc) false Hkb.out (by omega) H6.out (Reads.row (e := 5) (by simp)) hfd)
            clear hfd
            go_wp2_with fail
            refine HF.out.mono ?_
            rintro e w5 ⟨rfl, h9⟩
            have H9 := Lib.hid h9
            clear h9 HF
            go_wp2_with fail
            go_ret
            exact ⟨rfl, (H9.out.alloc0 _).below⟩
          · have hbell' : ¬ ((n : Int) < (nb : Int)) := by omega
            have hsrc := (Reads.old (R := [row_byte (.slice ra kl.length rc) kl.length (kints .u8 kl)]) Hl.out).pre (q := n - nb) (by omega) wr H6.out
            rw [← kints_take] at hsrc
            have hll : (l.take (n - nb)).length = n - nb := by rw [List.length_take]; have := Hn.out; omega
            have hcl := conv_src (W := wr) (v := .slice la (n - nb) lc) (l := l.take (n - nb)) (fun x hx => Hbl.out x (List.mem_of_mem_take hx)) (by rw [hll]; exact hsrc)
            obtain ⟨lt, hlt2⟩ : ∃ lt, lt = bsOf (l.take (n - nb)) := ⟨_, rfl⟩
            rw [← hlt2] at hcl
            obtain ⟨s1, hs1⟩ := backs_of Hs0.out nb (by have := Hn.out; omega)
            rw [← Hn.out, ← Hkl.out] at hs1
            have hfd := hs1.done (0, czero)
            rw [← hlt2] at hfd
            have i1 : (0 : Int) ≤ (n : Int) - (nb : Int) := by omega
            have i2 : ((n : Int) - (nb : Int)).toNat = n - nb := by omega
            have i3 : (n : Int) - (nb : Int) ≤ (lc : Int) := by
              have := Hl.out.cap
              omega
            have h7 := (H6.out.alloc #[.int .u8 13] 5).p1
            obtain ⟨kv2, w4, hrun, h8⟩ := app_byte (x := .slice (some ⟨wr.heap.size, 0, none⟩) 1 1) (m := 1) (vs := [.int .u8 13]) h7 (Reads.obj (b := wr.heap.size) (k := 1) (n := 1) (t := 5) (f := (0, 0)) (cs := #[.int .u8 13]) (by simp) (by decide) (by decide) (by simp)) (by simp [Value.oneCell']) (by unfold maxLen; omega) (by omega)
            have h9 : Owns w w4 [row_byte kv2 (kl ++ [13]).length (kints .u8 (kl ++ [13]))] := by
              rw [kints_append, List.length_append]
              exact h8.p1.drop
            have hkb2 : bytesB (kl ++ [13]) := by
              intro x hx
              rcases List.mem_append.1 hx with h | h
              · exact Hkb.out x h
              · simp at h; subst h; decide
            have HF := Lib.hid (pfed (k := kv2) false hkb2 (by simp; omega) h9 (Reads.row (e := 5) (by simp)) hfd)
            clear hsrc hll hlt2 hs1 hfd h7 h8 h9 hkb2
            go_wp2_with (at_builtin; refine Lib.wpList_append_run _ rfl _ _ _ _ rfl _ _ rfl rfl _ _ (hrun _) ?_)
            refine HF.out.mono ?_
            rintro e w5 ⟨rfl, h9⟩
            have hcv := fun a W h => conv_byte a nm W hnm0 hnm1 h
            have heq : ∀ w, (Op.equalIn 10000 33 (.agg #[.int .u8 0, .int .i64 0, .string ⟨#[]⟩, .string (str1 nm), .int .u8 0, .string lt]) (.agg #[.int .u8 0, .int .i64 0, .string ⟨#[]⟩, .string (str1 nm), .int .u8 0, .string lt])).run Try.prog w = .ok true w := fun w => eqin_cmd ⟨0, 0, ⟨#[]⟩, str1 nm, 0, lt⟩ w
            have h10 := (((h9.drop.alloc0 (.cells #[.int .u8 0, .int .i64 0, .string ⟨#[]⟩, .string (str1 nm), .int .u8 0, .string lt] 33)).alloc0 (.cells #[.int .u8 nm] 5)).alloc #[.int .u8 nm] 5).rowOf (k := 1) 1 1 (Nat.le_refl _) (by decide) rfl
            rw [World.size_alloc, World.size_alloc] at h10
            have H10 := Lib.hid h10
            obtain ⟨mm, hmm⟩ : ∃ mm : Nat, 63 + more % 3 = (mm : Int) := ⟨(63 + more % 3).toNat, by omega⟩
            have hmm1 : mm ≤ 65 := by omega
            have hmm0 : 63 ≤ mm := by omega
            clear h9 h10 HF hcl
            have Hmm := Lib.hid hmm
            clear hmm
            go_wp2_with fail
            go_loopw [20, 21] (fun kv q wx => ∃ j : Nat, j ≤ mm ∧ q = .int .i64 j ∧ Owns w wx [row_byte kv (nm :: List.replicate j 97).length (kints .u8 (nm :: List.replicate j 97))]) (fun _ q _ => mm - (intOf q).toNat)
            case atStart => exact ⟨0, Nat.zero_le _, rfl, H10.out⟩
            case round =>
              obtain ⟨j, hj, rfl, h6⟩ := hrel
              have H6b := Lib.hid h6
              obtain ⟨ra2, rc2, rfl⟩ := row_slice h6.row
              clear h6
              have hlj : (nm :: List.replicate j 97).length ≤ 66 := by simp; omega
              obtain ⟨kl2, hkl2⟩ : ∃ kl, kl = nm :: List.replicate j 97 := ⟨_, rfl⟩
              rw [← hkl2] at H6b hlj ⊢
              have Hkl2 := Lib.hid hkl2
              clear hkl2
              have hmx := Hmm.out
              by_cases hlt : j < mm
              · have hlti : (j : Int) < 63 + more % 3 := by omega
                have h7 := (H6b.out.alloc #[.int .u8 97] 5).p1
                obtain ⟨kv3, w6, hrun, h8⟩ := app_byte (x := .slice (some ⟨wr.heap.size, 0, none⟩) 1 1) (m := 1) (vs := [.int .u8 97]) h7 (Reads.obj (b := wr.heap.size) (k := 1) (n := 1) (t := 5) (f := (0, 0)) (cs := #[.int .u8 97]) (by simp) (by decide) (by decide) (by simp)) (by simp [Value.oneCell']) (by unfold maxLen; omega) (by omega)
                have h9 : Owns w w6 [row_byte kv3 (kl2 ++ [97]).length (kints .u8 (kl2 ++ [97]))] := by
                  rw [kints_append, List.length_append]
                  exact h8.p1.drop
                have H9 := Lib.hid h9
                clear h7 h8 h9 hmx
                go_wp2_with (at_builtin; refine Lib.wpList_append_run _ rfl _ _ _ _ rfl _ _ rfl rfl _ _ (hrun _) ?_)
                go_roundw
                case rel => exact ⟨j + 1, by omega, by go_num, by have := H9.out; rw [Hkl2.out] at this; rw [List.replicate_succ', ← List.cons_append]; exact this⟩
                case measure => simp [intOf]; omega
              · obtain rfl : mm = j := by omega
                have hlti : ¬ ((mm : Int) < 63 + more % 3) := by omega
                have hkb2 : bytesB kl2 := by
                  intro x hx
                  rw [Hkl2.out] at hx
                  rcases List.mem_cons.1 hx with rfl | h
                  · exact ⟨hnm0, hnm1⟩
                  · rw [List.eq_of_mem_replicate h]; decide
                have hfd : fedL false pzero kl2 (0, czero) = (if mm = 65 then 2 else 0, czero) := by
                  rw [Hkl2.out]
                  by_cases h65 : mm = 65
                  · rw [if_pos h65, h65]
                    obtain ⟨s2, hs2⟩ := longs Hnm.out 64 (Nat.le_refl _)
                    have := hs2.full (c := 97) (by decide) rfl rfl rfl rfl (by simp) (0, czero)
                    rw [show (65 : Nat) = 64 + 1 from rfl, List.replicate_succ', ← List.cons_append]
                    exact this
                  · rw [if_neg h65]
                    obtain ⟨s2, hs2⟩ := longs Hnm.out mm (by omega)
                    have hr := hs2.run
                    obtain ⟨m1, hm1⟩ : ∃ m1, mm = m1 + 1 := ⟨mm - 1, by omega⟩
                    rw [hm1, List.replicate_succ', ← List.cons_append] at hr ⊢
                    exact runs_fed hr (0, czero)
                have HF := Lib.hid (pfed (k := .slice ra2 kl2.length rc2) false hkb2 (by omega) H6b.out (Reads.row (e := 5) (by simp)) hfd)
                clear hkb2 hfd
                by_cases h65 : mm = 65
                · have h3 : more % 3 = 2 := by omega
                  have hf := HF.out
                  rw [if_pos h65] at hf
                  have HF2 := Lib.hid hf
                  clear hf hmx h65 HF
                  go_wp2_with fail
                  refine HF2.out.mono ?_
                  rintro e w7 ⟨rfl, h9⟩
                  have H9 := Lib.hid h9
                  clear h9 HF2
                  go_wp2_with fail
                  go_ret
                  exact ⟨rfl, (H9.out.alloc0 _).below⟩
                · have h3 : (more % 3 == 2) = false := by rw [beq_eq_false_iff_ne]; omega
                  have hf := HF.out
                  rw [if_neg h65] at hf
                  have HF2 := Lib.hid hf
                  clear hf hmx h65 HF
                  go_wp2_with fail
                  refine HF2.out.mono ?_
                  rintro e w7 ⟨rfl, h9⟩
                  have H9 := Lib.hid h9
                  clear h9 HF2
                  go_wp2_with fail
                  go_ret
                  exact ⟨rfl, (H9.out.alloc0 _).below⟩
end Go.Proofs.Ythcamokblkjkkaa
