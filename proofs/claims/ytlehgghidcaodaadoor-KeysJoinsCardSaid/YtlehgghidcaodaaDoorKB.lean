/- The program's Text and Parse of keys. -/
import Derived.Test.YtlehgghidcaodaaDoorKT
import Derived.Test.YtlehgghidcaodaaDoorBld
namespace Go.Proofs.YtlehgghidcaodaaDoor
open Go Go.RowKit Go.Fol
attribute [local go_sem ↓] Go.wp_at_zero Go.wp_at_succ
set_option linter.unusedVariables false
set_option linter.unusedSimpArgs false
section
variable {w0 w : World} {R : List Asrt}
set_option maxHeartbeats 1000000 in
theorem ktext {v : Value} {K : List Int} (hb : bytesN K) (hl : K.length ≤ 1000) (H : Owns w0 w R) (hk : Reads w0 R 1 v K.length (kints .u8 K)) :
    Calls Tryd.prog 8 #[v] w (Ret (.string (bs (textL K))) w0 R) := by
  suffices hs : Calls Tryd.prog 8 #[v] w (Ret (.string (bs (textL K))) w []) by
    refine hs.mono ?_
    rintro e w' ⟨rfl, h⟩
    exact ⟨rfl, H.quiet h.chg⟩
  have hk0 : Reads w [] 1 v K.length (kints .u8 K) := Reads.old (hk w H)
  clear H hk
  obtain ⟨ka, kc, rfl⟩ := (hk0 w (Owns.start w)).form
  obtain ⟨n, hn⟩ : ∃ n, n = K.length := ⟨_, rfl⟩
  rw [← hn] at hk0 hl ⊢
  have Hk := Lib.hid hk0
  have Hn := Lib.hid hn
  have Hb := Lib.hid hb
  have H0 := Lib.hid (bldNew ((Owns.start w).alloc #[.pointer none, .slice none 0 0] 36))
  clear hk0 hn hb
  go_enter Tryd.func8, Tryd.ntmps8
  go_wp2_with fail
  go_loopw [8] (fun q wr => ∃ (i : Nat) (u : Bool), i ≤ n ∧ q = .int .i64 i ∧ Owns w wr [bldA w.heap.size u (textL (K.take i))]) (fun q _ => n - (intOf q).toNat)
  case atStart => exact ⟨0, false, Nat.zero_le _, rfl, H0.out⟩
  case round =>
    obtain ⟨i, u, hi, rfl, hr⟩ := hrel
    have Hr := Lib.hid hr
    have htl := textL_len (K.take i)
    have htl2 : (K.take i).length ≤ i := List.length_take_le _ _
    clear H0
    by_cases hlt : i < n
    · obtain ⟨kb, ko, kc', e1, hkc, _, hce⟩ := (Hk.out wr (Owns.of_chg hr.chg)).cells (by omega) (by decide)
      cases e1
      have hx := kints_get .u8 K (i := i) (by have := Hn.out; omega)
      obtain ⟨c, hxe⟩ : ∃ x, x = K[i]?.getD 0 := ⟨_, rfl⟩
      rw [← hxe] at hx
      have cx := hce i _ hx
      have hKi : K[i]? = some c := by rw [hxe, List.getElem?_eq_getElem (by have := Hn.out; omega)]; rfl
      obtain ⟨hc0, hc1⟩ := Hb.out c (List.mem_of_getElem? hKi)
      have hnl := (nameL_len c).2
      have htk := textL_take hKi
      have hlen : (textL (K.take i)).length + (nameL c).length ≤ 100000000 := by omega
      have Htk := Lib.hid htk
      have Hlen := Lib.hid hlen
      clear hx hce hxe hKi hr htk htl hnl hlen
      go_wp2_with fail
      refine (kname hc0 hc1 Hr.out).mono ?_
      rintro e w1 ⟨rfl, h1⟩
      rw [nameB_bs]
      have H1 := Lib.hid h1
      clear h1 Hr cx
      go_wp2_with fail
      refine (bWrite (nameL c) H1.out Hlen.out).mono ?_
      rintro e w2 ⟨rfl, h2⟩
      rw [← Htk.out] at h2
      have H2 := Lib.hid h2
      clear h2 H1
      go_wp2_with fail
      go_roundw
      case rel => exact ⟨i + 1, true, by omega, by go_num, H2.out⟩
      case measure => simp [intOf]; omega
    · obtain rfl : i = n := by omega
      have hK : K.take i = K := List.take_of_length_le (by have := Hn.out; omega)
      rw [hK] at hr
      have HR := Lib.hid hr
      clear hK hr Hr htl
      go_wp2_with fail
      refine (bString HR.out).mono ?_
      rintro e w3 ⟨rfl, h3⟩
      have H3 := Lib.hid h3
      clear h3
      go_wp2_with fail
      go_ret
      exact ⟨rfl, H3.out⟩
theorem name_kinds : ∀ d : Fin 256, (nameL d.val).head? = some 60 ∨ nameL d.val = [UInt8.ofNat d.val] := by decide +kernel
theorem pre_cons {x y : UInt8} {a b : List UInt8} (h : (x :: a).isPrefixOf (y :: b) = true) : x = y := by
  simp [List.isPrefixOf] at h
  exact h.1
theorem firstK_other {x : UInt8} {t : List UInt8} (hx : x ≠ 60) : firstK (x :: t) = if nameL (x.toNat : Nat) = [x] then some x.toNat else none := by
  have hno : ∀ d, d < 256 → (nameL (d : Nat)).isPrefixOf (x :: t) = true → d = x.toNat ∧ nameL (x.toNat : Nat) = [x] := by
    intro d hd h
    rcases name_kinds ⟨d, hd⟩ with h1 | h1
    · simp only at h1
      cases hn : nameL (d : Nat) with
      | nil => rw [hn] at h1; cases h1
      | cons y a =>
        rw [hn] at h1 h
        have := pre_cons h
        simp at h1
        exact absurd (this.symm.trans h1) hx
    · simp only at h1
      rw [h1] at h
      have h2 := pre_cons h
      have hdx : d = x.toNat := by rw [← h2]; simp; exact (Nat.mod_eq_of_lt hd).symm
      subst hdx
      refine ⟨rfl, ?_⟩
      rw [h1]
      simp
  by_cases hn : nameL (x.toNat : Nat) = [x]
  · rw [if_pos hn]
    have hxl := x.toNat_lt
    refine firstK_some (fun d hd => ?_) hxl (by rw [hn]; simp [List.isPrefixOf])
    apply Bool.eq_false_iff.2
    intro h
    have := (hno d (by omega) h).1
    omega
  · rw [if_neg hn]
    refine firstK_none (fun d hd => ?_)
    apply Bool.eq_false_iff.2
    intro h
    exact hn (hno d hd h).2
/-- What first gives. -/
def firstV : Option Nat → Value | some c => .tuple #[.int .u8 c, .bool true] | none => .tuple #[.int .u8 0, .bool false]
set_option maxRecDepth 100000 in
attribute [-go_sem] run_slice_string_if run_slice_string run_slice_string_from_if run_slice_string_to_if run_slice_string_h run_slice_string_l run_index_string in
set_option maxHeartbeats 1000000 in
theorem kfirst_other {x : UInt8} {t : List UInt8} (hx : x ≠ 60) (hl : (x :: t).length ≤ 10000) (H : Owns w0 w R) : Calls Tryd.prog 18 #[.string (bs (x :: t))] w (Ret (.tuple #[.int .u8 x.toNat, .bool (decide (nameL (x.toNat : Nat) = [x]))]) w0 R) := by
  have hix : ∀ w, (Instr.index 9 (.string (bs (x :: t))) (.int .i64 0)).run Tryd.prog w = .ok (.int .u8 x.toNat) w := fun w => by
    rw [run_index_string (h := Tryd.underlying9), dif_pos (by rw [bs_size]; simp)]
    rfl
  have hsl : ∀ w, (Instr.slice 9 (.string (bs (x :: t))) none (some (.int .i64 1)) none).run Tryd.prog w = .ok (.string (bs [x])) w := fun w => by
    rw [run_slice_string_to_if (h := Tryd.underlying9), if_pos (by rw [bs_size]; simp; omega)]
    rw [show ((1 : Int).toNat) = 1 from rfl, bs_pre]
    rfl
  obtain ⟨b, hb⟩ : ∃ b, b = decide (nameL (x.toNat : Nat) = [x]) := ⟨_, rfl⟩
  have hq : ((bs (nameL (x.toNat : Nat))).toList == (bs [x]).toList) = b := by
    rw [bs_toList, bs_toList, hb]
    by_cases h : nameL (x.toNat : Nat) = [x]
    · simp [h]
    · simp [h]
  rw [← hb]
  obtain ⟨c, hc⟩ : ∃ c : Nat, c = x.toNat := ⟨_, rfl⟩
  have hc255 : (c : Int) ≤ 255 := by have := x.toNat_lt; omega
  have hne : ((c : Int) != 60) = true := by
    rw [bne_iff_ne]
    intro h
    apply hx
    apply UInt8.toNat_inj.1
    rw [← hc]
    simp
    omega
  rw [← hc] at hix hq ⊢
  obtain ⟨S, hS⟩ : ∃ S, S = bs (x :: t) := ⟨_, rfl⟩
  rw [← hS] at hix hsl ⊢
  obtain ⟨X, hX⟩ : ∃ X, X = bs [x] := ⟨_, rfl⟩
  rw [← hX] at hsl hq
  have hname := fun n => kname (c := (c : Int)) (by omega) hc255 (H.drewN n)
  rw [nameB_bs] at hname
  obtain ⟨Y, hY⟩ : ∃ Y, Y = bs (nameL (c : Int)) := ⟨_, rfl⟩
  rw [← hY] at hname hq
  have HH := Lib.hid H
  have Hname := Lib.hid hname
  clear H hname hb hc hS hX hY hx hl
  go_enter Tryd.func18, Tryd.ntmps18
  go_wp2_with fail
  go_region_held3 (fun w' => True) (trivial) ((go_at_call 12; refine (Hname.out 1).mono ?_; rintro e w1 ⟨rfl, h1⟩; have H1 := Lib.hid h1; clear h1))
  all_goals
    go_wp2_with fail
    go_ret2
    exact ⟨rfl, H1.out⟩
set_option maxRecDepth 100000 in
attribute [-go_sem] run_slice_string_if run_slice_string run_slice_string_from_if run_slice_string_to_if run_slice_string_h run_slice_string_l run_index_string in
set_option maxHeartbeats 1000000 in
theorem kfirst_lt {t : List UInt8} (hl : (60 :: t).length ≤ 10000) (H : Owns w0 w R) : Calls Tryd.prog 18 #[.string (bs (60 :: t))] w (Ret (firstV (firstK (60 :: t))) w0 R) := by
  have hix : ∀ w, (Instr.index 9 (.string (bs (60 :: t))) (.int .i64 0)).run Tryd.prog w = .ok (.int .u8 60) w := fun w => by
    rw [run_index_string (h := Tryd.underlying9), dif_pos (by rw [bs_size]; simp)]
    rfl
  obtain ⟨T, hT⟩ : ∃ T, T = 60 :: t := ⟨_, rfl⟩
  rw [← hT] at hix hl ⊢
  have HH := Lib.hid H
  have HT := Lib.hid hT
  clear H hT
  go_enter Tryd.func18, Tryd.ntmps18
  go_wp2_with fail
  go_loopw [17] (fun q wr => ∃ c : Nat, q = .int .i64 c ∧ c ≤ 256 ∧ NoK T c ∧ Owns w0 wr R) (fun q _ => 256 - (intOf q).toNat)
  case atStart => exact ⟨0, rfl, by omega, noK_zero T, HH.out⟩
  case round =>
    obtain ⟨c, rfl, hc, hno, hr⟩ := hrel
    have Hr := Lib.hid hr
    have Hno := Lib.hid hno
    clear hr hno HH
    by_cases hlt : c < 256
    · obtain ⟨nm, hnm⟩ : ∃ nm, nm = nameL (c : Nat) := ⟨_, rfl⟩
      have hname := kname (c := (c : Int)) (by omega) (by omega) Hr.out
      rw [nameB_bs, ← hnm] at hname
      have hnl := (nameL_len (c : Nat)).1
      rw [← hnm] at hnl
      obtain ⟨y, a, hya⟩ : ∃ y a, nm = y :: a := by
        cases nm with
        | nil => simp at hnl
        | cons y a => exact ⟨y, a, rfl⟩
      have hiy : ∀ w, (Instr.index 9 (.string (bs nm)) (.int .i64 0)).run Tryd.prog w = .ok (.int .u8 y.toNat) w := fun w => by
        rw [run_index_string (h := Tryd.underlying9), dif_pos (by rw [bs_size, hya]; simp)]
        subst hya
        rfl
      obtain ⟨z, hz⟩ : ∃ z : Int, z = y.toNat := ⟨_, rfl⟩
      rw [← hz] at hiy
      have Hname := Lib.hid hname
      have hpf := Tryd.strings_HasPrefix (bs T) (bs nm)
      rw [bs_data, bs_data] at hpf
      by_cases hpre : nm.isPrefixOf T = true
      · have hy : y = 60 := by rw [hya, HT.out] at hpre; exact pre_cons hpre
        have hz60 : z = 60 := by rw [hz, hy]; rfl
        subst hz60
        have hfk := firstK_some Hno.out hlt (by rw [← hnm]; exact hpre)
        have hpf' : ∀ w, Calls Tryd.prog 22 #[.string (bs T), .string (bs nm)] w fun e w' => e = .returned (.bool true) ∧ w' = w := fun w => by
          have := hpf w
          rw [show Lib.hasPrefix T nm = true from hpre] at this
          exact this
        have Hpf := Lib.hid hpf'
        have Hfk := Lib.hid hfk
        clear hpre hnm hname hya hpf hpf' hy hz hfk hnl
        go_wp2_with fail
        refine Hname.out.mono ?_
        rintro e w2 ⟨rfl, h3⟩
        have H3 := Lib.hid h3
        clear h3 Hr
        go_wp2_with fail
        refine (Hpf.out _).mono ?_
        rintro e w' ⟨rfl, rfl⟩
        go_wp2_with fail
        go_ret2
        exact ⟨by rw [Hfk.out]; rfl, H3.out⟩
      · have hno' := noK_succ Hno.out (by rw [← hnm]; exact Bool.eq_false_iff.2 hpre)
        have hpf' : ∀ w, Calls Tryd.prog 22 #[.string (bs T), .string (bs nm)] w fun e w' => e = .returned (.bool false) ∧ w' = w := fun w => by
          have := hpf w
          rw [show Lib.hasPrefix T nm = false from Bool.eq_false_iff.2 hpre] at this
          exact this
        have Hpf := Lib.hid hpf'
        have Hno' := Lib.hid hno'
        clear hpre hnm hname hya hpf hpf' hz hnl hno' Hno
        by_cases hz60 : z = 60
        · subst hz60
          go_wp2_with fail
          refine Hname.out.mono ?_
          rintro e w2 ⟨rfl, h3⟩
          have H3 := Lib.hid h3
          clear h3 Hr
          go_wp2_with fail
          refine (Hpf.out _).mono ?_
          rintro e w' ⟨rfl, rfl⟩
          go_wp2_with fail
          go_roundw
          case rel => exact ⟨c + 1, by go_num, by omega, Hno'.out, H3.out⟩
          case measure => simp [intOf]; omega
        · have hzf : (z == 60) = false := beq_eq_false_iff_ne.2 hz60
          clear hz60
          go_wp2_with fail
          refine Hname.out.mono ?_
          rintro e w2 ⟨rfl, h3⟩
          have H3 := Lib.hid h3
          clear h3 Hr
          go_wp2_with fail
          go_roundw
          case rel => exact ⟨c + 1, by go_num, by omega, Hno'.out, H3.out⟩
          case measure => simp [intOf]; omega
    · obtain rfl : c = 256 := by omega
      go_wp2_with fail
      go_ret2
      exact ⟨by rw [firstK_none Hno.out]; rfl, Hr.out⟩
theorem kfirst {s : List UInt8} (hs : s ≠ []) (hl : s.length ≤ 10000) (H : Owns w0 w R) :
    Calls Tryd.prog 18 #[.string (bs s)] w fun e w' => ∃ (r : Int) (ok : Bool), e = .returned (.tuple #[.int .u8 r, .bool ok]) ∧ (firstK s = if ok then some r.toNat else none) ∧ 0 ≤ r ∧ r ≤ 255 ∧ Owns w0 w' R := by
  cases s with
  | nil => exact absurd rfl hs
  | cons x t =>
    by_cases hx : x = 60
    · subst hx
      refine (kfirst_lt hl H).mono ?_
      rintro e w' ⟨rfl, h⟩
      cases hf : firstK (60 :: t) with
      | none => exact ⟨0, false, rfl, by simp, by omega, by omega, h⟩
      | some c =>
        have hc : c < 256 := by
          unfold firstK at hf
          exact List.mem_range.1 (List.mem_of_find?_eq_some hf)
        exact ⟨(c : Int), true, rfl, by simp, by omega, by omega, h⟩
    · refine (kfirst_other hx hl H).mono ?_
      rintro e w' ⟨rfl, h⟩
      have hxl := x.toNat_lt
      refine ⟨(x.toNat : Int), _, rfl, ?_, by omega, by omega, h⟩
      rw [firstK_other hx]
      by_cases hn : nameL (x.toNat : Nat) = [x]
      · rw [if_pos hn, if_pos (by simpa using hn)]
        simp
      · rw [if_neg hn, if_neg (by simpa using hn)]
set_option maxRecDepth 100000 in
attribute [-go_sem] run_slice_string_if run_slice_string run_slice_string_from_if in
set_option maxHeartbeats 2000000 in
theorem kparse {s : List UInt8} (hl : s.length ≤ 10000) (H : Owns w0 w R) :
    Calls Tryd.prog 9 #[.string (bs s)] w (ParseRet (parseF s) w0 R) := by
  have HH := Lib.hid H
  clear H
  go_enter Tryd.func9, Tryd.ntmps9
  go_wp2_with fail
  go_loopw [0, 4] (fun sv ov wr => ∃ (t : List UInt8) (K : List Int), t.length ≤ s.length ∧ K.length + t.length ≤ s.length ∧ sv = .string (bs t) ∧ parseF s = (parseF t).map (K ++ ·) ∧ Owns w0 wr (row_byte ov K.length (kints .u8 K) :: R)) (fun sv _ _ => match sv with | .string b => b.size | _ => 0)
  case atStart => exact ⟨s, [], Nat.le_refl _, by simp, rfl, by simp, HH.out.rowNil 5 1⟩
  case round =>
    obtain ⟨t, K, ht, hKt, rfl, hp, hr⟩ := hrel
    obtain ⟨oa, oc, rfl⟩ := row_slice hr.row
    have Hr := Lib.hid hr
    have Hp := Lib.hid hp
    clear hr hp HH
    by_cases ht0 : t = []
    · subst ht0
      have hb : (bs ([] : List UInt8)).toList = [] := bs_toList _
      go_wp2_with fail
      go_ret2
      refine .inr ⟨K, _, ?_, rfl, Hr.out⟩
      rw [Hp.out, parseF_nil]
      simp
    · obtain ⟨hb1, hb2⟩ := bs_ne ht0
      have hf := kfirst ht0 (by omega) Hr.out
      have Hf := Lib.hid hf
      have Ht0 := Lib.hid ht0
      clear hf ht0
      go_wp2_with fail
      refine Hf.out.mono ?_
      rintro e w1 ⟨r, ok, rfl, hfk, hr0, hr1, h1⟩
      have H1 := Lib.hid h1
      clear h1 Hr Hf hb1 hb2
      cases ok with
      | false =>
        have Hfk := Lib.hid hfk
        clear hfk
        go_wp2_with fail
        go_ret2
        refine .inl ⟨?_, rfl, H1.out.drop⟩
        rw [Hp.out, parseF_none Ht0.out Hfk.out]
        rfl
      | true =>
        obtain ⟨c, rfl⟩ : ∃ c : Nat, r = (c : Int) := ⟨r.toNat, by omega⟩
        replace hfk : firstK t = some c := by simpa using hfk
        have hpre : (nameL (c : Nat)).isPrefixOf t = true := by
          unfold firstK at hfk
          exact List.find?_some (p := fun (c : Nat) => (nameL c).isPrefixOf t) hfk
        obtain ⟨hpl, hpt⟩ := pre_iff.1 hpre
        have hnl := (nameL_len (c : Nat)).1
        obtain ⟨t', ht'⟩ : ∃ t', t' = t.drop (nameL (c : Nat)).length := ⟨_, rfl⟩
        obtain ⟨K', hK'⟩ : ∃ K', K' = K ++ [(c : Int)] := ⟨_, rfl⟩
        have htl : t'.length + 1 ≤ t.length := by rw [ht', List.length_drop]; omega
        have hKl : K'.length + t'.length ≤ s.length := by rw [hK', ht', List.length_drop, List.length_append]; simp; omega
        have hp' : parseF s = (parseF t').map (K' ++ ·) := by rw [Hp.out, parseF_some Ht0.out hfk, Option.map_map, hK', ht']; congr 1; funext x; simp
        have hsz : (bs t).size = t.length := bs_size t
        obtain ⟨nm, hnm⟩ : ∃ nm, nm = nameL (c : Nat) := ⟨_, rfl⟩
        obtain ⟨v', w', hrn, h2⟩ := app_byte (x := .slice (some ⟨w1.heap.size, 0, none⟩) 1 1) (m := 1) (vs := [.int .u8 c]) ((H1.out.alloc #[.int .u8 c] 5).p1) (Reads.obj (b := w1.heap.size) (k := 1) (n := 1) (t := 5) (f := (0, 0)) (cs := #[.int .u8 c]) List.mem_cons_self (by decide) (by decide) (by simp)) (by simp [Value.oneCell']) (by unfold maxLen; omega) (by omega)
        have e : kints .u8 K ++ [Value.int .u8 c] = kints .u8 K' := by rw [hK']; simp [kints]
        rw [e, show K.length + 1 = K'.length by rw [hK']; simp] at h2
        have H2 := Lib.hid (h2.p1.drop)
        have hname := kname (c := (c : Int)) (by omega) (by omega) H2.out
        rw [nameB_bs, ← hnm] at hname
        rw [← hnm] at hpl hpt ht' hnl
        have hsz2 : (bs nm).size = nm.length := bs_size nm
        have hsl2 : ∀ w, (Instr.slice 9 (.string (bs t)) (some (.int .i64 nm.length)) none none).run Tryd.prog w = .ok (.string (bs t')) w := fun w => by
          rw [run_slice_string_from_if (h := Tryd.underlying9), if_pos (by rw [hsz]; omega), Int.toNat_natCast, hsz, bs_suf, ht']
        have Hname := Lib.hid hname
        have Hp' := Lib.hid hp'
        clear hfk hpre hpt hp' hname ht' hK' hnm e h2
        go_wp2_with (at_builtin; refine Lib.wpList_append_run _ rfl _ _ _ _ rfl _ _ rfl rfl _ _ (hrn _) ?_)
        refine Hname.out.mono ?_
        rintro e w2 ⟨rfl, h3⟩
        have H3 := Lib.hid h3
        clear h3 Hname hrn H1 H2
        go_wp2_with fail
        go_roundw
        case rel => exact ⟨t', K', by omega, hKl, rfl, Hp'.out, H3.out⟩
        case measure => simp only [bs_size]; omega
end
end Go.Proofs.YtlehgghidcaodaaDoor
