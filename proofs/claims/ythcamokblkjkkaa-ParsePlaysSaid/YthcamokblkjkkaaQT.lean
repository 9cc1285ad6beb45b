/- The document's Text and Parse of keys. -/
import Derived.Test.YthcamokblkjkkaaQN
import Derived.Test.YthcamokblkjkkaaStr
import Derived.Test.YthcamokblkjkkaaRowByte
namespace Go.Proofs.Ythcamokblkjkkaa
open Go Go.RowKit Go.Fol
attribute [local go_sem ↓] Go.wp_at_zero Go.wp_at_succ
set_option linter.unusedVariables false
set_option linter.unusedSimpArgs false
theorem nameB_bs (c : Int) : nameB c = bs (nameL c) := rfl
/-- Keys' names. -/
def textL (K : List Int) : List UInt8 := K.flatMap nameL
theorem textL_nil : textL [] = [] := rfl
theorem textL_append (A B : List Int) : textL (A ++ B) = textL A ++ textL B := by simp [textL]
theorem textL_one (c : Int) : textL [c] = nameL c := by simp [textL]
theorem textL_take {K : List Int} {i : Nat} {c : Int} (h : K[i]? = some c) : textL (K.take (i + 1)) = textL (K.take i) ++ nameL c := by
  obtain ⟨h1, h2⟩ := List.getElem?_eq_some_iff.1 h
  rw [List.take_succ_eq_append_getElem h1, h2, textL_append, textL_one]
theorem textL_len : ∀ (K : List Int), (textL K).length ≤ 5 * K.length
  | [] => by simp [textL]
  | c :: K => by
    have h1 := (nameL_len c).2
    have h2 := textL_len K
    have : textL (c :: K) = nameL c ++ textL K := by simp [textL]
    rw [this, List.length_append, List.length_cons]
    omega
/-- The key that a text begins with. -/
def firstK (s : List UInt8) : Option Nat := (List.range 256).find? (fun (c : Nat) => (nameL c).isPrefixOf s)
/-- Read back. -/
def parseN : Nat → List UInt8 → Option (List Int)
  | 0, _ => some []
  | n + 1, s => if s = [] then some [] else match firstK s with
    | none => none
    | some c => (parseN n (s.drop (nameL c).length)).map ((c : Int) :: ·)
def parseF (s : List UInt8) : Option (List Int) := parseN s.length s
theorem parseN_any : ∀ (n m : Nat) (s : List UInt8), s.length ≤ n → s.length ≤ m → parseN n s = parseN m s := by
  intro n
  induction n with
  | zero =>
    intro m s h _
    have : s = [] := List.eq_nil_of_length_eq_zero (by omega)
    subst this
    cases m <;> rfl
  | succ n ih =>
    intro m s hn hm
    cases m with
    | zero =>
      have : s = [] := List.eq_nil_of_length_eq_zero (by omega)
      subst this
      rfl
    | succ m =>
      simp only [parseN]
      split
      · rfl
      · rename_i hs
        have hs0 : s.length ≠ 0 := fun h => hs (List.eq_nil_of_length_eq_zero h)
        split
        · rfl
        · rename_i c hc
          have hl := (nameL_len c).1
          rw [ih m _ (by rw [List.length_drop]; omega) (by rw [List.length_drop]; omega)]
theorem parseF_nil : parseF [] = some [] := rfl
theorem parseF_none {s : List UInt8} (hs : s ≠ []) (h : firstK s = none) : parseF s = none := by
  unfold parseF
  cases s with
  | nil => exact absurd rfl hs
  | cons x s => simp only [List.length_cons, parseN]; rw [if_neg hs, h]
theorem parseF_some {s : List UInt8} {c : Nat} (hs : s ≠ []) (h : firstK s = some c) : parseF s = (parseF (s.drop (nameL c).length)).map ((c : Int) :: ·) := by
  have hl := (nameL_len c).1
  have h0 : s.length ≠ 0 := fun h => hs (List.eq_nil_of_length_eq_zero h)
  have e : parseF s = parseN ((s.length - 1) + 1) s := parseN_any _ _ _ (Nat.le_refl _) (by omega)
  rw [e]
  simp only [parseN]
  rw [if_neg hs, h]
  simp only
  rw [parseF, parseN_any (s.length - 1) _ _ (by rw [List.length_drop]; omega) (Nat.le_refl _)]
/-- The first c keys aren't it. -/
def NoK (s : List UInt8) (c : Nat) : Prop := ∀ d, d < c → (nameL (d : Nat)).isPrefixOf s = false
theorem noK_zero (s : List UInt8) : NoK s 0 := fun d h => by omega
theorem noK_succ {s : List UInt8} {c : Nat} (h : NoK s c) (hc : (nameL (c : Nat)).isPrefixOf s = false) : NoK s (c + 1) := fun d hd => by
  by_cases e : d = c
  · subst e; exact hc
  · exact h d (by omega)
theorem firstK_none {s : List UInt8} (h : NoK s 256) : firstK s = none := by
  unfold firstK
  rw [List.find?_eq_none]
  intro d hd
  rw [h d (List.mem_range.1 hd)]
  decide
theorem firstK_some {s : List UInt8} {c : Nat} (h : NoK s c) (hc : c < 256) (hp : (nameL (c : Nat)).isPrefixOf s = true) : firstK s = some c := by
  unfold firstK
  rw [List.find?_range_eq_some]
  exact ⟨hp, List.mem_range.2 hc, fun j hj => by rw [h j hj]; rfl⟩
theorem pre_iff {n s : List UInt8} : n.isPrefixOf s = true ↔ n.length ≤ s.length ∧ s.take n.length = n := by
  rw [List.isPrefixOf_iff_prefix, List.prefix_iff_eq_take]
  constructor
  · intro h; exact ⟨by have := congrArg List.length h; simp at this; omega, h.symm⟩
  · exact fun h => h.2.symm
section
variable {w0 w : World} {R : List Asrt}
theorem parseN_bd : ∀ (n : Nat) (s : List UInt8) (K : List Int), s.length ≤ n → parseN n s = some K → bytesN K ∧ K.length ≤ s.length := by
  intro n
  induction n with
  | zero =>
    intro s K _ h
    simp only [parseN] at h
    cases h
    exact ⟨(fun x hx => by cases hx), by simp⟩
  | succ n ih =>
    intro s K hs h
    simp only [parseN] at h
    split at h
    · cases h
      exact ⟨(fun x hx => by cases hx), by simp⟩
    · rename_i hs0
      have hl0 : s.length ≠ 0 := fun h => hs0 (List.eq_nil_of_length_eq_zero h)
      split at h
      · cases h
      · rename_i c hc
        have hnl := (nameL_len c).1
        cases hp : parseN n (s.drop (nameL c).length) with
        | none => rw [hp] at h; cases h
        | some K' =>
          rw [hp] at h
          cases h
          obtain ⟨h1, h2⟩ := ih _ K' (by rw [List.length_drop]; omega) hp
          rw [List.length_drop] at h2
          have hc2 : c < 256 := by
            have := List.mem_of_find?_eq_some hc
            exact List.mem_range.1 this
          refine ⟨fun x hx => ?_, by rw [List.length_cons]; omega⟩
          rcases List.mem_cons.1 hx with rfl | hx
          · omega
          · exact h1 x hx
theorem parseF_bd {s : List UInt8} {K : List Int} (h : parseF s = some K) : bytesN K ∧ K.length ≤ s.length := parseN_bd _ _ _ (Nat.le_refl _) h
/-- What Parse gives. -/
def ParseRet (o : Option (List Int)) (w0 : World) (R : List Asrt) (e : Ending) (w' : World) : Prop :=
  (o = none ∧ e = .returned (.tuple #[.slice none 0 0, .bool false]) ∧ Owns w0 w' R) ∨ ∃ K v, o = some K ∧ e = .returned (.tuple #[v, .bool true]) ∧ Owns w0 w' (row_byte v K.length (kints .u8 K) :: R)
attribute [-go_sem] run_slice_string_if run_slice_string run_slice_string_from_if run_slice_string_to_if run_slice_string_h run_slice_string_l in
set_option maxRecDepth 100000 in
set_option maxHeartbeats 2000000 in
theorem wparse {s : List UInt8} (hl : s.length ≤ 10000) (H : Owns w0 w R) :
    Calls Try.prog 49 #[.string (bs s)] w (ParseRet (parseF s) w0 R) := by
  have HH := Lib.hid H
  clear H
  go_enter Try.func49, Try.ntmps49
  go_wp2_with fail
  go_loopw [0, 4] (fun sv ov wr => ∃ (t : List UInt8) (K : List Int), t.length ≤ s.length ∧ K.length + t.length ≤ s.length ∧ sv = .string (bs t) ∧ parseF s = (parseF t).map (K ++ ·) ∧ Owns w0 wr (row_byte ov K.length (kints .u8 K) :: R)) (fun sv _ _ => match sv with | .string b => b.size | _ => 0)
  case atStart => exact ⟨s, [], Nat.le_refl _, by simp, rfl, by simp, HH.out.rowNil 5 1⟩
  case round =>
    obtain ⟨t, K, ht, hKt, rfl, hp, hr⟩ := hrel
    obtain ⟨oa, oc, rfl⟩ := row_slice hr.row
    have Hr := Lib.hid hr
    have Hp := Lib.hid hp
    clear hr hp HH
    by_cases ht0 : t = []
    · subst ht0
      have hb : (bs ([] : List UInt8)).toList = [] := bs_toList _
      go_wp2_with fail
      go_ret2
      refine .inr ⟨K, _, ?_, rfl, Hr.out⟩
      rw [Hp.out, parseF_nil]
      simp
    · obtain ⟨hb1, hb2⟩ := bs_ne ht0
      have ht1 : 1 ≤ t.length := by cases t with
        | nil => exact absurd rfl ht0
        | cons _ _ => simp
      obtain ⟨wo, rfl⟩ : ∃ wo : World, wo = wr := ⟨_, rfl⟩
      go_wp2_with fail
      clear hb1 hb2
      have Ht0 := Lib.hid ht0
      clear ht0
      go_loopw [0, 4, 5, 6] (fun sv ov fv q wi => ∃ c : Nat, q = .int .i64 c ∧ c ≤ 256 ∧ ((fv = .bool false ∧ NoK t c ∧ sv = .string (bs t) ∧ Owns w0 wi (row_byte ov K.length (kints .u8 K) :: R)) ∨ (fv = .bool true ∧ ∃ (t' : List UInt8) (K' : List Int), t'.length + 1 ≤ t.length ∧ K'.length + t'.length ≤ s.length ∧ parseF s = (parseF t').map (K' ++ ·) ∧ sv = .string (bs t') ∧ Owns w0 wi (row_byte ov K'.length (kints .u8 K') :: R)))) (fun _ _ _ q _ => 257 - (intOf q).toNat)
      case atStart => exact ⟨0, rfl, by omega, .inl ⟨rfl, noK_zero t, rfl, Hr.out⟩⟩
      case round =>
        obtain ⟨c, rfl, hc, ⟨rfl, hno, rfl, h2⟩ | ⟨rfl, t', K', htl, hKl, hp', rfl, h2⟩⟩ := hrel
        · obtain ⟨oa2, oc2, rfl⟩ := row_slice h2.row
          have H2 := Lib.hid h2
          have Hno := Lib.hid hno
          clear h2 hno Hr
          by_cases hlt : c < 256
          · by_cases hpre : (nameL (c : Nat)).isPrefixOf t = true
            · obtain ⟨hpl, hpt⟩ := pre_iff.1 hpre
              have hfk := firstK_some Hno.out hlt hpre
              have hnl := (nameL_len (c : Nat)).1
              obtain ⟨t', ht'⟩ : ∃ t', t' = t.drop (nameL (c : Nat)).length := ⟨_, rfl⟩
              obtain ⟨K', hK'⟩ : ∃ K', K' = K ++ [(c : Int)] := ⟨_, rfl⟩
              have htl : t'.length + 1 ≤ t.length := by rw [ht', List.length_drop]; omega
              have hKl : K'.length + t'.length ≤ s.length := by rw [hK', ht', List.length_drop, List.length_append]; simp; omega
              have hp' : parseF s = (parseF t').map (K' ++ ·) := by rw [Hp.out, parseF_some Ht0.out hfk, Option.map_map, hK', ht']; congr 1; funext x; simp
              have hsz : (bs t).size = t.length := bs_size t
              obtain ⟨nm, hnm⟩ : ∃ nm, nm = nameL (c : Nat) := ⟨_, rfl⟩
              have hname := wname (c := (c : Int)) (by omega) (by omega) H2.out
              rw [nameB_bs, ← hnm] at hname
              rw [← hnm] at hpl hpt ht' hnl
              have hsz2 : (bs nm).size = nm.length := bs_size nm
              have hsl1 : ∀ w, (Instr.slice 9 (.string (bs t)) none (some (.int .i64 nm.length)) none).run Try.prog w = .ok (.string (bs nm)) w := fun w => by
                rw [run_slice_string_to_if (h := Try.underlying9), if_pos (by rw [hsz]; omega), Int.toNat_natCast, bs_pre, hpt]
              have hsl2 : ∀ w, (Instr.slice 9 (.string (bs t)) (some (.int .i64 nm.length)) none none).run Try.prog w = .ok (.string (bs t')) w := fun w => by
                rw [run_slice_string_from_if (h := Try.underlying9), if_pos (by rw [hsz]; omega), Int.toNat_natCast, hsz, bs_suf, ht']
              have happ : ∀ (W : World), Owns w0 W (row_byte (.slice oa2 K.length oc2) K.length (kints .u8 K) :: R) → ∃ v' w', (∀ ty, (Builtin.append_ #[22, 22] ty #[.slice oa2 K.length oc2, .slice (some ⟨W.heap.size, 0, none⟩) 1 1]).run Try.prog (W.alloc (.cells #[.int .u8 c] 5)) = .ok v' w') ∧ Owns w0 w' (row_byte v' K'.length (kints .u8 K') :: R) := fun W h => by
                obtain ⟨v', w', h1, h2⟩ := app_byte (x := .slice (some ⟨W.heap.size, 0, none⟩) 1 1) (m := 1) (vs := [.int .u8 c]) ((h.alloc #[.int .u8 c] 5).p1) (Reads.obj (b := W.heap.size) (k := 1) (n := 1) (t := 5) (f := (0, 0)) (cs := #[.int .u8 c]) List.mem_cons_self (by decide) (by decide) (by simp)) (by simp [Value.oneCell']) (by unfold maxLen; omega) (by omega)
                refine ⟨v', w', h1, ?_⟩
                have e : kints .u8 K ++ [Value.int .u8 c] = kints .u8 K' := by rw [hK']; simp [kints]
                rw [e, show K.length + 1 = K'.length by rw [hK']; simp] at h2
                exact h2.p1.drop
              have Happ := Lib.hid happ
              have Hp' := Lib.hid hp'
              have Hname := Lib.hid hname
              clear ht' hK' hp' hfk hpre hpt hnm hname happ H2 Hno
              go_wp2_with fail
              refine Hname.out.mono ?_
              rintro e w2 ⟨rfl, h3⟩
              obtain ⟨v', w', hr, h4⟩ := Happ.out _ h3
              have H4 := Lib.hid h4
              clear h3 h4 Hname Happ
              go_wp2_with (at_builtin; refine Lib.wpList_append_run _ rfl _ _ _ _ rfl _ _ rfl rfl _ _ (hr _) ?_)
              go_roundw
              case rel => exact ⟨c + 1, by go_num, by omega, .inr ⟨rfl, t', K', htl, hKl, Hp'.out, rfl, H4.out⟩⟩
              case measure => simp [intOf]; omega
            · have hno' := noK_succ Hno.out (Bool.eq_false_iff.2 hpre)
              obtain ⟨nm, hnm⟩ : ∃ nm, nm = nameL (c : Nat) := ⟨_, rfl⟩
              have hname := wname (c := (c : Int)) (by omega) (by omega) H2.out
              rw [nameB_bs, ← hnm] at hname
              have hsz : (bs t).size = t.length := bs_size t
              have hsz2 : (bs nm).size = nm.length := bs_size nm
              have Hname := Lib.hid hname
              have Hno' := Lib.hid hno'
              by_cases hpl : nm.length ≤ t.length
              · have hsl1 : ∀ w, (Instr.slice 9 (.string (bs t)) none (some (.int .i64 nm.length)) none).run Try.prog w = .ok (.string (bs (t.take nm.length))) w := fun w => by
                  rw [run_slice_string_to_if (h := Try.underlying9), if_pos (by rw [hsz]; omega), Int.toNat_natCast, bs_pre]
                have hne : ((bs (t.take nm.length)).toList == (bs nm).toList) = false := by
                  rw [bs_toList, bs_toList, beq_eq_false_iff_ne]
                  intro h
                  exact hpre (pre_iff.2 ⟨by rw [← hnm]; exact hpl, by rw [← hnm]; exact h⟩)
                obtain ⟨tk, htk⟩ : ∃ tk, tk = t.take nm.length := ⟨_, rfl⟩
                rw [← htk] at hsl1 hne
                clear hpre hnm hname hno' Hno H2 htk
                go_wp2_with fail
                refine Hname.out.mono ?_
                rintro e w2 ⟨rfl, h3⟩
                have H3 := Lib.hid h3
                clear h3
                go_wp2_with fail
                go_roundw
                case rel => exact ⟨c + 1, by go_num, by omega, .inl ⟨rfl, Hno'.out, rfl, H3.out⟩⟩
                case measure => simp [intOf]; omega
              · have hpl' : t.length < nm.length := by omega
                clear hpre hnm hname hno' Hno H2 hpl
                go_wp2_with fail
                refine Hname.out.mono ?_
                rintro e w2 ⟨rfl, h3⟩
                have H3 := Lib.hid h3
                clear h3
                go_wp2_with fail
                go_roundw
                case rel => exact ⟨c + 1, by go_num, by omega, .inl ⟨rfl, Hno'.out, rfl, H3.out⟩⟩
                case measure => simp [intOf]; omega
          · obtain rfl : c = 256 := by omega
            go_wp2_with fail
            go_ret2
            refine .inl ⟨?_, rfl, H2.out.drop⟩
            rw [Hp.out, parseF_none Ht0.out (firstK_none Hno.out)]
            rfl
        · obtain ⟨oa2, oc2, rfl⟩ := row_slice h2.row
          have H2 := Lib.hid h2
          have H2 := Lib.hid h2
          have Hp' := Lib.hid hp'
          clear hp' h2 Hr
          by_cases hlt : c < 256
          all_goals
            go_wp2_with fail
            go_roundw
            case rel => exact ⟨t', K', by omega, hKl, rfl, Hp'.out, H2.out⟩
            case measure => simp only [bs_size]; omega
end
end Go.Proofs.Ythcamokblkjkkaa
