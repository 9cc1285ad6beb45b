/- The document's Try in other modes. -/
import Derived.Test.YthcamokblkjkkaaTJ
namespace Go.Proofs.Ythcamokblkjkkaa
open Go Go.RowKit Go.Fol
attribute [local go_sem ↓] Go.wp_at_zero Go.wp_at_succ
attribute [local go_sem ↓] run_min2 run_max2
set_option linter.unusedVariables false
set_option linter.unusedSimpArgs false
section
variable {w0 w : World} {R : List Asrt}
set_option maxHeartbeats 8000000 in
set_option maxRecDepth 100000 in
theorem ttry_false {ka : Option Addr} {kc : Nat} {l : List Int} (hb : bytesB l) (hl : l.length ≤ 1000) (H : Owns w0 w R) (hk : Reads w0 R 1 (.slice ka l.length kc) l.length (kints .u8 l)) :
    Calls Try.prog 23 #[.slice ka l.length kc, .bool false] w (Ret (.tuple #[.int .i64 (tryF false l).1, .agg (tryF false l).2.cells]) w0 R) := by
  obtain ⟨rr, rc, hr⟩ : ∃ rr rc, tryF false l = (rr, rc) := ⟨_, _, rfl⟩
  rw [hr]
  dsimp only
  have Hr := Lib.hid hr
  have Hk := Lib.hid hk
  have Hb := Lib.hid hb
  obtain ⟨B, hB⟩ : ∃ B, B = w.heap.size := ⟨_, rfl⟩
  obtain ⟨A, hA⟩ : ∃ A, A = w.heap.size + 1 := ⟨_, rfl⟩
  have h1 := ((H.alloc czero.cells 33).alloc czero.cells 33).p1
  rw [World.size_alloc, ← hA, ← hB] at h1
  obtain ⟨W1, hW1⟩ : ∃ W1, (w.alloc (.cells czero.cells 33)).alloc (.cells czero.cells 33) = W1 := ⟨_, rfl⟩
  rw [hW1] at h1
  have HW1 := Lib.hid hW1
  have HA := Lib.hid hA
  have HB := Lib.hid hB
  have H1 := Lib.hid h1
  obtain ⟨n0, hn0⟩ : ∃ n0, n0 = l.length := ⟨_, rfl⟩
  rw [← hn0] at hl ⊢
  have HN := Lib.hid hn0
  clear h1 hW1 hA hB H hr hk hb hn0
  go_enter Try.func23, Try.ntmps23
  go_upto_region 2 with (fail)
  rw [show Obj.cells #[Value.int IntKind.u8 0, Value.int IntKind.i64 0, Value.string { data := #[] }, Value.string { data := #[] }, Value.int IntKind.u8 0, Value.string { data := #[] }] 33 = Obj.cells czero.cells 33 from rfl, HW1.out, ← HA.out, ← HB.out]
  clear HW1 HA HB
  go_wp2_with fail
  go_loopg [7, 8] n0 (fun gk iv nv wr => ∃ (i n : Nat) (reg : Int), gk + i = n0 ∧ iv = .int .i64 i ∧ nv = .int .i64 n ∧ n ≤ 9999 ∧ tryA false (decide (i = 0)) reg n (l.drop i) = (rr, rc) ∧ Owns w0 wr (cobj B czero :: cobj A ⟨reg, 0, ⟨#[]⟩, ⟨#[]⟩, 0, ⟨#[]⟩⟩ :: R))
  case atStart => exact ⟨0, 0, 0, rfl, rfl, rfl, by decide, by rw [List.drop_zero]; exact Hr.out, H1.out⟩
  case round =>
    obtain ⟨i, n, reg, hgi, rfl, rfl, hn9, htr, h2⟩ := hrel
    have H2 := Lib.hid h2
    clear h2 Hr
    by_cases hlt : i < n0
    · obtain ⟨x, hx⟩ : ∃ x, l[i]? = some x := ⟨_, List.getElem?_eq_getElem (by have := HN.out; omega)⟩
      have hdr : l.drop i = x :: l.drop (i + 1) := by
        obtain ⟨h1, h2⟩ := List.getElem?_eq_some_iff.1 hx
        rw [List.drop_eq_getElem_cons h1, h2]
      obtain ⟨b, o, rfl, hlc, hx0, hx1, hke⟩ := byte_at Hb.out hx Hk.out H2.out.drop.drop
      have hlc : n0 ≤ kc := by have := HN.out; omega
      have kx : wr.cell? ⟨b, o + i, none⟩ = some (.int .u8 x) := hke wr H2.out.drop.drop
      have HKE := Lib.hid hke
      have Hdr := Lib.hid hdr
      rw [hdr, tryA_cons] at htr
      have hli : (i : Int) < (n0 : Int) := by omega
      have Htr := Lib.hid htr
      clear hx hke hdr htr
      by_cases h34 : x = 34
      · subst h34
        by_cases hl1 : i + 1 < n0
        · obtain ⟨r, hr⟩ : ∃ r, l[i + 1]? = some r := ⟨_, List.getElem?_eq_getElem (by have := HN.out; omega)⟩
          have hdr2 : l.drop (i + 1) = r :: l.drop (i + 2) := by
            obtain ⟨h1, h2⟩ := List.getElem?_eq_some_iff.1 hr
            rw [List.drop_eq_getElem_cons h1, h2]
          obtain ⟨b', o', e', _, hr0, hr1, hke⟩ := byte_at Hb.out hr Hk.out H2.out.drop.drop
          cases e'
          have kr : wr.cell? ⟨b, o + (i + 1), none⟩ = some (.int .u8 r) := hke wr H2.out.drop.drop
          have hl1' : ¬ ((n0 : Int) ≤ (i : Int) + 1) := by omega
          have hl1'' : (i : Int) + 1 < (n0 : Int) := by omega
          clear hke hr
          cases hreg : regB r with
          | false =>
            obtain ⟨rfl, rfl⟩ : rr = 2 ∧ rc = czero := by have := Htr.out; rw [hdr2] at this; simp only [beq_self_eq_true, if_true, hreg, Bool.false_eq_true, if_false] at this; cases this; exact ⟨rfl, rfl⟩
            clear hdr2
            go_wp2_with fail
            refine (tregister r _).mono ?_
            rintro e w' ⟨rfl, rfl⟩
            rw [hreg]
            go_wp2_with fail
            refine (tbell H2.out).mono ?_
            rintro e w9 ⟨rfl, h9⟩
            obtain ⟨q0, q1, q2, q3, q4, q5⟩ := ccells (h9)
            obtain ⟨t0, t1, t2, t3, t4, t5⟩ := cfrozen (h9)
            go_wp2_with fail
            obtain ⟨u0, u1, u2, u3, u4, u5⟩ := csetu (h9) czero
            exact bodyPost_ret (v := .tuple #[.int .i64 2, .agg (czero).cells]) (by (try simp [czero] at u0 u1 u2 u3 u4 u5); simp [results, Try.results23, go_sem, czero, u0, u1, u2, u3, u4, u5]) rfl ⟨rfl, (Owns.cset (h9) czero).drop.drop⟩
          | true =>
            have htr2 : tryA false (decide (i + 2 = 0)) r n (l.drop (i + 2)) = (rr, rc) := by have := Htr.out; rw [hdr2] at this; simp only [beq_self_eq_true, if_true, hreg] at this; exact this
            have Htr2 := Lib.hid htr2
            have a0 := (ccellsM H2.out.p1).1
            have f0 : wr.frozen? ⟨A, 0, none⟩ = false := H2.out.p1.frozen 0
            have H3 := Lib.hid (Owns.cput H2.out.p1 ⟨r, 0, ⟨#[]⟩, ⟨#[]⟩, 0, ⟨#[]⟩⟩ 0 (.int .u8 r) rfl).p1
            clear hdr2 htr2 Htr H2
            go_wp2_with fail
            refine (tregister r _).mono ?_
            rintro e w' ⟨rfl, rfl⟩
            rw [hreg]
            go_wp2_with fail
            go_roundg (n0 - (i + 2))
            case measure => omega
            case rel => exact ⟨i + 2, n, r, by omega, by go_num, rfl, hn9, Htr2.out, H3.out⟩
        · have hl1' : ((n0 : Int) ≤ (i : Int) + 1) := by omega
          obtain ⟨rfl, rfl⟩ : rr = 0 ∧ rc = czero := by have := Htr.out; rw [List.drop_eq_nil_of_le (by have := HN.out; omega)] at this; simp only [beq_self_eq_true, if_true] at this; cases this; exact ⟨rfl, rfl⟩
          clear Htr
          go_wp2_with fail
          refine (twait H2.out).mono ?_
          rintro e w9 ⟨rfl, h9⟩
          obtain ⟨q0, q1, q2, q3, q4, q5⟩ := ccells (h9)
          obtain ⟨t0, t1, t2, t3, t4, t5⟩ := cfrozen (h9)
          go_wp2_with fail
          obtain ⟨u0, u1, u2, u3, u4, u5⟩ := csetu (h9) czero
          exact bodyPost_ret (v := .tuple #[.int .i64 0, .agg (czero).cells]) (by (try simp [czero] at u0 u1 u2 u3 u4 u5); simp [results, Try.results23, go_sem, czero, u0, u1, u2, u3, u4, u5]) rfl ⟨rfl, (Owns.cset (h9) czero).drop.drop⟩
      have e34 : (x == 34) = false := by simpa using h34
      have Hnum := Lib.hid (tnumber i n (by have := HN.out; omega) hn9 Hb.out (by have := HN.out; omega) (Hk.out wr H2.out.drop.drop))
      rw [← HN.out] at Hnum
      clear h34
      go_wp2_with fail
      refine Hnum.out.mono ?_
      rintro e w' ⟨⟨n', i', rfl, hii, hil, hn9', hnu⟩, rfl⟩
      by_cases hij : i' = i
      · subst hij
        obtain ⟨hnn, _⟩ := (numF_len _ _ _ _ hnu).2 rfl
        subst hnn
        rw [Hdr.out] at hnu
        have hdg := numF_stop _ _ _ hnu
        have htb : tryB false (decide (i' = 0)) reg n' x (l.drop (i' + 1)) = (rr, rc) := by have := Htr.out; rw [e34, if_neg (by simp), hdg, if_neg (by simp)] at this; exact this
        have Htb := Lib.hid htb
        have hnl : ((i' : Int) == (n0 : Int)) = false := by rw [beq_eq_false_iff_ne]; omega
        clear hnu hdg htb Htr Hnum hii
        by_cases hesc : i' ≠ 0 ∧ x = 27
        · obtain ⟨hi0, rfl⟩ := hesc
          obtain ⟨rfl, rfl⟩ : rr = 2 ∧ rc = czero := by have := Htb.out; unfold tryB at this; rw [decide_eq_false hi0] at this; cases this; exact ⟨rfl, rfl⟩
          have hi0' : (0 : Int) < (i' : Int) := by omega
          clear Htb
          go_wp2_with fail
          refine (tbell H2.out).mono ?_
          rintro e w9 ⟨rfl, h9⟩
          obtain ⟨q0, q1, q2, q3, q4, q5⟩ := ccells (h9)
          obtain ⟨t0, t1, t2, t3, t4, t5⟩ := cfrozen (h9)
          go_wp2_with fail
          obtain ⟨u0, u1, u2, u3, u4, u5⟩ := csetu (h9) czero
          exact bodyPost_ret (v := .tuple #[.int .i64 2, .agg (czero).cells]) (by (try simp [czero] at u0 u1 u2 u3 u4 u5); simp [results, Try.results23, go_sem, czero, u0, u1, u2, u3, u4, u5]) rfl ⟨rfl, (Owns.cset (h9) czero).drop.drop⟩
        have hwy : i' = 0 ∨ (0 < i' ∧ (x == 27) = false) := by
          rw [beq_eq_false_iff_ne]
          omega
        have htb2 : (if !false && opB x then tryC false reg n' (str1 x) (l.drop (i' + 1))
            else match l.drop (i' + 1) with
              | y :: l' => if !false && x == 103 && tilB y then tryC false reg n' (strg y) l' else restT false ⟨reg, cntF n' 0, ⟨#[]⟩, ⟨#[]⟩, 0, ⟨#[]⟩⟩ x (l.drop (i' + 1))
              | [] => restT false ⟨reg, cntF n' 0, ⟨#[]⟩, ⟨#[]⟩, 0, ⟨#[]⟩⟩ x (l.drop (i' + 1))) = (rr, rc) := by
          have := Htb.out
          unfold tryB at this
          rw [if_neg (by
            intro h
            simp at h
            exact hesc h)] at this
          rw [← this]
          cases l.drop (i' + 1) <;> rfl
        have Htb2 := Lib.hid htb2
        clear htb2 Htb hesc
        go_upto_region 16 with (fail)
        go_cut [72] (fun tv wx => tv = .bool false ∧ wr = wx)
        case first =>
          rcases hwy with hi0 | ⟨hi0, e27⟩
          · have hi0' : ¬ ((0 : Int) < (i' : Int)) := by omega
            clear hi0
            go_wp2_with fail
            go_meet
            exact ⟨rfl, rfl⟩
          · have hi0' : (0 : Int) < (i' : Int) := by omega
            go_wp2_with fail
            go_meet
            exact ⟨rfl, rfl⟩
        case rest =>
        obtain ⟨rfl, hwx⟩ := hcut
        subst hwx
        clear hwy
        have hfin : ((i' : Nat) : Int) < (n0 : Int) := by omega
        have hopx : opB x = true ∨ (opB x = false ∧ (x = 103 ∨ (x == 103) = false)) := by
          cases opB x
          · right
            refine ⟨rfl, ?_⟩
            rw [beq_eq_false_iff_ne]
            omega
          · exact .inl rfl
        go_upto_if 84 with (go_at_call 32; refine (thas_op (c := x) hx0 hx1 _).mono ?_; rintro e w' ⟨rfl, rfl⟩)
        go_cut [7] (fun iv wx => ∃ (i2 : Nat) (op : ByteArray), iv = .int .i64 i2 ∧ TryCut reg n' n0 i' x l rr rc i2 op ∧ Owns w0 wx (cobj B czero :: cobj A ⟨reg, 0, op, ⟨#[]⟩, 0, ⟨#[]⟩⟩ :: R))
        case first =>
          obtain ⟨k0, k1, k2, k3, k4, k5⟩ := ccellsM H2.out.p1
          clear k0 k1 k3 k4 k5
          have f2 : wr.frozen? ⟨A, 2, none⟩ = false := H2.out.p1.frozen 2
          rcases hopx with hop | ⟨hop, rfl | e103⟩ <;> rw [hop]
          · have hcv : (convert 22 9 (.slice (some ⟨b, o + i', none⟩) 1 (kc - i'))).run Try.prog wr = .ok (.string (str1 x)) wr := by
              have h := ((Hk.out wr H2.out.drop.drop).post (q := i') (by have := HN.out; omega) (a2 := some ⟨b, o + i', none⟩) (by rw [if_neg (by omega), Option.map_some, Addr.add_lit]))
              have h2 := h.pre (q := 1) (by have := HN.out; omega)
              refine conv_src (l := [x]) (fun y hy => by simp at hy; subst hy; exact ⟨hx0, hx1⟩) ?_
              have e : ((kints .u8 l).drop i').take 1 = kints .u8 [x] := by
                have := congrArg (fun z => (kints .u8 z).take 1) Hdr.out
                simpa [kints, List.map_drop] using this
              rwa [e] at h2
            have hne : ¬ kc = i' := by omega
            have hsub : i' + 1 - i' = 1 := by omega
            have htc : tryC false reg n' (str1 x) (l.drop (i' + 1)) = (rr, rc) := by have := Htb2.out; rw [hop] at this; exact this
            have HTC := Lib.hid htc
            have H3 := Lib.hid (Owns.cput H2.out.p1 ⟨reg, 0, str1 x, ⟨#[]⟩, 0, ⟨#[]⟩⟩ 2 (.string (str1 x)) rfl).p1
            have hc1 : (i' : Int) + 1 ≤ (kc : Int) := by omega
            clear htc H2 Htb2
            go_wp2_with fail
            go_meet
            exact ⟨i' + 1, str1 x, rfl, .inr ⟨by show 1 ≤ 1; decide, by show 1 ≤ 2; decide, by omega, HTC.out⟩, H3.out⟩
          · by_cases hl1 : i' + 1 < n0
            · obtain ⟨y, hy⟩ : ∃ y, l[i' + 1]? = some y := ⟨_, List.getElem?_eq_getElem (by have := HN.out; omega)⟩
              have hdr2 : l.drop (i' + 1) = y :: l.drop (i' + 2) := by
                obtain ⟨h1, h2⟩ := List.getElem?_eq_some_iff.1 hy
                rw [List.drop_eq_getElem_cons h1, h2]
              obtain ⟨b', o', e', _, hy0, hy1, hke⟩ := byte_at Hb.out hy Hk.out H2.out.drop.drop
              cases e'
              have ky : wr.cell? ⟨b, o + (i' + 1), none⟩ = some (.int .u8 y) := hke wr H2.out.drop.drop
              have hl1' : (i' : Int) + 1 < (n0 : Int) := by omega
              have Hdr2 := Lib.hid hdr2
              clear hke hy hdr2
              cases hti : tilB y with
              | true =>
                have hcv : (convert 22 9 (.slice (some ⟨b, o + i', none⟩) 2 (kc - i'))).run Try.prog wr = .ok (.string (strg y)) wr := by
                  have h := ((Hk.out wr H2.out.drop.drop).post (q := i') (by have := HN.out; omega) (a2 := some ⟨b, o + i', none⟩) (by rw [if_neg (by omega), Option.map_some, Addr.add_lit]))
                  have h2 := h.pre (q := 2) (by have := HN.out; omega)
                  refine conv_src (l := [103, y]) (fun z hz => by simp at hz; rcases hz with rfl | rfl; exact ⟨by decide, by decide⟩; exact ⟨hy0, hy1⟩) ?_
                  have e : ((kints .u8 l).drop i').take 2 = kints .u8 [103, y] := by
                    have := congrArg (fun z => (kints .u8 z).take 2) (Hdr.out.trans (by rw [Hdr2.out]))
                    simpa [kints, List.map_drop] using this
                  rwa [e] at h2
                have hne : ¬ kc = i' := by omega
                have hsub : i' + 2 - i' = 2 := by omega
                have htc : tryC false reg n' (strg y) (l.drop (i' + 2)) = (rr, rc) := by
                  have := Htb2.out
                  rw [hop, Hdr2.out] at this
                  simp only [hti, Bool.not_false, Bool.and_false, Bool.and_self, beq_self_eq_true, if_true, Bool.false_eq_true, if_false] at this
                  exact this
                have HTC := Lib.hid htc
                have H3 := Lib.hid (Owns.cput H2.out.p1 ⟨reg, 0, strg y, ⟨#[]⟩, 0, ⟨#[]⟩⟩ 2 (.string (strg y)) rfl).p1
                have hc1 : (i' : Int) + 2 ≤ (kc : Int) := by omega
                clear htc H2 Htb2
                go_wp2_with (go_at_call 32; refine (thas_til (c := y) hy0 hy1 _).mono ?_; rintro e w' ⟨rfl, rfl⟩)
                go_meet
                exact ⟨i' + 2, strg y, rfl, .inr ⟨by show 1 ≤ 2; decide, by show 2 ≤ 2; decide, by omega, HTC.out⟩, H3.out⟩
              | false =>
                have hsp : restT false ⟨reg, cntF n' 0, ⟨#[]⟩, ⟨#[]⟩, 0, ⟨#[]⟩⟩ 103 (l.drop (i' + 1)) = (rr, rc) := by
                  have := Htb2.out
                  rw [hop, Hdr2.out] at this
                  simp only [hti, Bool.not_false, Bool.and_false, beq_self_eq_true, Bool.false_eq_true, if_false] at this
                  rw [Hdr2.out]
                  exact this
                have HSP := Lib.hid hsp
                clear hsp Htb2
                go_wp2_with (go_at_call 32; refine (thas_til (c := y) hy0 hy1 _).mono ?_; rintro e w' ⟨rfl, rfl⟩)
                go_meet
                exact ⟨i', ⟨#[]⟩, rfl, .inl ⟨rfl, rfl, HSP.out⟩, H2.out⟩
            · have hsp : restT false ⟨reg, cntF n' 0, ⟨#[]⟩, ⟨#[]⟩, 0, ⟨#[]⟩⟩ 103 (l.drop (i' + 1)) = (rr, rc) := by
                have := Htb2.out
                have hd : l.drop (i' + 1) = [] := List.drop_eq_nil_of_le (by have := HN.out; omega)
                rw [hop, hd] at this
                rw [hd]
                exact this
              have HSP := Lib.hid hsp
              have hl1' : ¬ ((i' : Int) + 1 < (n0 : Int)) := by omega
              clear hsp Htb2
              go_wp2_with fail
              go_meet
              exact ⟨i', ⟨#[]⟩, rfl, .inl ⟨rfl, rfl, HSP.out⟩, H2.out⟩
          · have hsp : restT false ⟨reg, cntF n' 0, ⟨#[]⟩, ⟨#[]⟩, 0, ⟨#[]⟩⟩ x (l.drop (i' + 1)) = (rr, rc) := by
              have := Htb2.out
              simp only [hop, e103, Bool.not_false, Bool.and_false, Bool.false_and, Bool.false_eq_true, if_false] at this
              cases h : l.drop (i' + 1) <;> rw [h] at this <;> exact this
            have HSP := Lib.hid hsp
            clear hsp Htb2
            go_wp2_with fail
            go_meet
            exact ⟨i', ⟨#[]⟩, rfl, .inl ⟨rfl, rfl, HSP.out⟩, H2.out⟩
        case rest =>
        obtain ⟨i2, op, rfl, hcut2, h3⟩ := hcut
        have H3 := Lib.hid h3
        clear h3 H2 Htb2 hopx kx
        rcases hcut2 with ⟨rfl, rfl, hsp⟩ | ⟨hop1, hop2, hi2n, htc⟩
        · have Hsp0 := Lib.hid hsp
          clear hsp
          obtain ⟨k0, k1, k2, k3, k4, k5⟩ := ccellsM H3.out.p1
          clear k0 k3 k4 k5
          by_cases hn0 : 0 < n'
          · have hn0' : (0 : Int) < (n' : Int) := by omega
            have hmx : max (n' : Int) 1 = n' := by omega
            have hm01 : max (0 : Int) 1 = 1 := by decide
            have hmn : min (n' : Int) 9999 = n' := by omega
            have hct : ((cntF n' 0 : Nat) : Int) = n' := by unfold cntF; rw [if_pos (.inl hn0), Nat.max_eq_left (by omega), show max 0 1 = 1 from rfl, Nat.mul_one]; omega
            have Hsp := Lib.hid (show restT false ⟨reg, (n' : Nat), ⟨#[]⟩, ⟨#[]⟩, 0, ⟨#[]⟩⟩ x (l.drop (i2 + 1)) = (rr, rc) by rw [← hct]; exact Hsp0.out)
            have f1 : wc.frozen? ⟨A, 1, none⟩ = false := H3.out.p1.frozen 1
            have H5 := Lib.hid (Owns.cput H3.out.p1 ⟨reg, n', ⟨#[]⟩, ⟨#[]⟩, 0, ⟨#[]⟩⟩ 1 (.int .i64 n') rfl).p1
            clear hct
            have hlen : (x :: (l.drop (i2 + 1))).length = n0 - i2 := by rw [← Hdr.out, List.length_drop, ← HN.out]
            have hk3 : Reads w0 (cobj B czero :: cobj A ⟨reg, n', ⟨#[]⟩, ⟨#[]⟩, 0, ⟨#[]⟩⟩ :: R) 1 (.slice (some ⟨b, o + i2, none⟩) (x :: (l.drop (i2 + 1))).length (kc - i2)) (x :: (l.drop (i2 + 1))).length (kints .u8 (x :: (l.drop (i2 + 1)))) := fun W hW => by
              have h := (Hk.out W hW.drop.drop).post (q := i2) (by have := HN.out; omega) (a2 := some ⟨b, o + i2, none⟩) (by rw [if_neg (by omega), Option.map_some, Addr.add_lit])
              rw [← Hdr.out, List.length_drop]
              simpa [kints, List.map_drop] using h
            have hbx : bytesB (x :: (l.drop (i2 + 1))) := fun y hy => Hb.out y (List.mem_of_mem_drop (i := i2) (by rw [Hdr.out]; exact hy))
            have hp := trest_normal (x := x) (l := (l.drop (i2 + 1))) reg n' ⟨#[]⟩ 0 ⟨#[]⟩ hbx (by rw [List.length_cons] at hlen; omega) H5.out.drew hk3
            rw [hlen, Hsp.out] at hp
            dsimp only at hp
            have HP := Lib.hid hp
            obtain ⟨z0, z1, z2, z3, z4, z5⟩ := ccellsM H5.out.p1
            have hi0 : (0 : Int) ≤ (i2 : Nat) := by omega
            have hin : ((i2 : Nat) : Int) ≤ (n0 : Int) := by omega
            have hne : ¬ kc = i2 := by omega
            clear hp hk3 hlen hbx
            go_wp2_with fail
            go_region_with (go_at_call 37; refine HP.out.mono ?_; rintro e w9 ⟨rfl, h9⟩; obtain ⟨q0, q1, q2, q3, q4, q5⟩ := ccells h9; obtain ⟨t0, t1, t2, t3, t4, t5⟩ := cfrozen h9)
            all_goals
              go_wp2_with fail
              obtain ⟨u0, u1, u2, u3, u4, u5⟩ := csetu h9 rc
              refine bodyPost_ret (v := .tuple #[.int .i64 rr, .agg rc.cells]) ?_ rfl ⟨rfl, ?_⟩
              rotate_left
              exact (Owns.cset h9 rc).drop.drop
              simp [results, Try.results23, go_sem, czero, u0, u1, u2, u3, u4, u5]
          · obtain rfl : n' = 0 := by omega
            have Hsp := Lib.hid (show restT false ⟨reg, 0, ⟨#[]⟩, ⟨#[]⟩, 0, ⟨#[]⟩⟩ x (l.drop (i2 + 1)) = (rr, rc) from Hsp0.out)
            have hlen : (x :: (l.drop (i2 + 1))).length = n0 - i2 := by rw [← Hdr.out, List.length_drop, ← HN.out]
            have hk3 : Reads w0 (cobj B czero :: cobj A ⟨reg, 0, ⟨#[]⟩, ⟨#[]⟩, 0, ⟨#[]⟩⟩ :: R) 1 (.slice (some ⟨b, o + i2, none⟩) (x :: (l.drop (i2 + 1))).length (kc - i2)) (x :: (l.drop (i2 + 1))).length (kints .u8 (x :: (l.drop (i2 + 1)))) := fun W hW => by
              have h := (Hk.out W hW.drop.drop).post (q := i2) (by have := HN.out; omega) (a2 := some ⟨b, o + i2, none⟩) (by rw [if_neg (by omega), Option.map_some, Addr.add_lit])
              rw [← Hdr.out, List.length_drop]
              simpa [kints, List.map_drop] using h
            have hbx : bytesB (x :: (l.drop (i2 + 1))) := fun y hy => Hb.out y (List.mem_of_mem_drop (i := i2) (by rw [Hdr.out]; exact hy))
            have hp := trest_normal (x := x) (l := (l.drop (i2 + 1))) reg 0 ⟨#[]⟩ 0 ⟨#[]⟩ hbx (by rw [List.length_cons] at hlen; omega) H3.out.drew hk3
            rw [hlen, Hsp.out] at hp
            dsimp only at hp
            have HP := Lib.hid hp
            obtain ⟨z0, z1, z2, z3, z4, z5⟩ := ccellsM H3.out.p1
            have hi0 : (0 : Int) ≤ (i2 : Nat) := by omega
            have hin : ((i2 : Nat) : Int) ≤ (n0 : Int) := by omega
            have hne : ¬ kc = i2 := by omega
            clear hp hk3 hlen hbx
            go_wp2_with fail
            go_region_with (go_at_call 37; refine HP.out.mono ?_; rintro e w9 ⟨rfl, h9⟩; obtain ⟨q0, q1, q2, q3, q4, q5⟩ := ccells h9; obtain ⟨t0, t1, t2, t3, t4, t5⟩ := cfrozen h9)
            all_goals
              go_wp2_with fail
              obtain ⟨u0, u1, u2, u3, u4, u5⟩ := csetu h9 rc
              refine bodyPost_ret (v := .tuple #[.int .i64 rr, .agg rc.cells]) ?_ rfl ⟨rfl, ?_⟩
              rotate_left
              exact (Owns.cset h9 rc).drop.drop
              simp [results, Try.results23, go_sem, czero, u0, u1, u2, u3, u4, u5]
        · have Hop1 := Lib.hid hop1
          have Hop2 := Lib.hid hop2
          have hne : ¬ op.toList = [] := by
            rw [ByteArray.toList_eq]
            intro h
            have h2 : op.data.toList.length = 0 := by rw [h]; rfl
            have h3 : op.size = op.data.toList.length := by show op.data.size = _; rw [Array.length_toList]
            omega
          have hne2 : op.toList.isEmpty = false := by
            cases h : op.toList with
            | nil => exact absurd h hne
            | cons a b => rfl
          obtain ⟨k0, k1, k2, k3, k4, k5⟩ := ccellsM H3.out.p1
          clear k0 k3 k4 k5
          have Hnum := Lib.hid (tnumber i2 0 (by have := HN.out; omega) (by decide) Hb.out (by have := HN.out; omega) (Hk.out wc H3.out.drop.drop))
          rw [← HN.out] at Hnum
          have Htc := Lib.hid htc
          clear htc hop1 hop2
          go_wp2_with fail
          refine Hnum.out.mono ?_
          rintro e w' ⟨⟨m, i3, rfl, hii3, hil3, hm9, hnu⟩, rfl⟩
          by_cases hend : i3 = n0
          · subst hend
            obtain ⟨rfl, rfl⟩ : rr = 0 ∧ rc = czero := by
              have := Htc.out
              rw [tryC, hnu, List.drop_eq_nil_of_le (by have := HN.out; omega)] at this
              cases this
              exact ⟨rfl, rfl⟩
            clear Htc hnu Hnum
            go_wp2_with fail
            refine (twait H3.out).mono ?_
            rintro e w9 ⟨rfl, h9⟩
            obtain ⟨q0, q1, q2, q3, q4, q5⟩ := ccells (h9)
            obtain ⟨t0, t1, t2, t3, t4, t5⟩ := cfrozen (h9)
            go_wp2_with fail
            obtain ⟨u0, u1, u2, u3, u4, u5⟩ := csetu (h9) czero
            exact bodyPost_ret (v := .tuple #[.int .i64 0, .agg (czero).cells]) (by (try simp [czero] at u0 u1 u2 u3 u4 u5); simp [results, Try.results23, go_sem, czero, u0, u1, u2, u3, u4, u5]) rfl ⟨rfl, (Owns.cset (h9) czero).drop.drop⟩
          · obtain ⟨x3, hx3⟩ : ∃ x3, l[i3]? = some x3 := ⟨_, List.getElem?_eq_getElem (by have := HN.out; omega)⟩
            have hdr3 : l.drop i3 = x3 :: l.drop (i3 + 1) := by
              obtain ⟨h1, h2⟩ := List.getElem?_eq_some_iff.1 hx3
              rw [List.drop_eq_getElem_cons h1, h2]
            have hsp : restT false ⟨reg, cntF n' m, op, ⟨#[]⟩, 0, ⟨#[]⟩⟩ x3 (l.drop (i3 + 1)) = (rr, rc) := by
              have := Htc.out
              rw [tryC, hnu, hdr3] at this
              exact this
            have Hsp := Lib.hid hsp
            have Hdr3 := Lib.hid hdr3
            have hne3 : ((i3 : Int) == (n0 : Int)) = false := by rw [beq_eq_false_iff_ne]; omega
            have f1 : wc.frozen? ⟨A, 1, none⟩ = false := H3.out.p1.frozen 1
            obtain ⟨cn, hcn⟩ : ∃ cn, cn = cntF n' m := ⟨_, rfl⟩
            rw [← hcn] at Hsp
            by_cases hpos : 0 < n' ∨ 0 < m
            · obtain ⟨a, d, hM1, hM2, hmul, hmul2, hmn⟩ := cnt_facts n' m hn9 hm9 hpos
              rw [← hcn] at hmn
              have H5 := Lib.hid (Owns.cput H3.out.p1 ⟨reg, (cn : Nat), op, ⟨#[]⟩, 0, ⟨#[]⟩⟩ 1 (.int .i64 cn) rfl).p1
              have hw : (0 < n') ∨ (¬ 0 < n' ∧ 0 < m) := by omega
              clear hcn hnu hdr3 hx3 Htc Hnum hpos hsp
              rcases hw with hnp | ⟨hnp, hmp⟩
              · have hnp' : (0 : Int) < (n' : Int) := by omega
                have hlen : (x3 :: (l.drop (i3 + 1))).length = n0 - i3 := by rw [← Hdr3.out, List.length_drop, ← HN.out]
                have hk3 : Reads w0 (cobj B czero :: cobj A ⟨reg, cn, op, ⟨#[]⟩, 0, ⟨#[]⟩⟩ :: R) 1 (.slice (some ⟨b, o + i3, none⟩) (x3 :: (l.drop (i3 + 1))).length (kc - i3)) (x3 :: (l.drop (i3 + 1))).length (kints .u8 (x3 :: (l.drop (i3 + 1)))) := fun W hW => by
                  have h := (Hk.out W hW.drop.drop).post (q := i3) (by have := HN.out; omega) (a2 := some ⟨b, o + i3, none⟩) (by rw [if_neg (by omega), Option.map_some, Addr.add_lit])
                  rw [← Hdr3.out, List.length_drop]
                  simpa [kints, List.map_drop] using h
                have hbx : bytesB (x3 :: (l.drop (i3 + 1))) := fun y hy => Hb.out y (List.mem_of_mem_drop (i := i3) (by rw [Hdr3.out]; exact hy))
                have hp := trest_op (x := x3) (l := (l.drop (i3 + 1))) reg cn op Hop1.out Hop2.out false ⟨#[]⟩ 0 ⟨#[]⟩ hbx (by rw [List.length_cons] at hlen; omega) H5.out.drew hk3
                rw [hlen, Hsp.out] at hp
                dsimp only at hp
                have HP := Lib.hid hp
                obtain ⟨z0, z1, z2, z3, z4, z5⟩ := ccellsM H5.out.p1
                have hi0 : (0 : Int) ≤ (i3 : Nat) := by omega
                have hin : ((i3 : Nat) : Int) ≤ (n0 : Int) := by omega
                have hne : ¬ kc = i3 := by omega
                clear hp hk3 hlen hbx
                go_wp2_with fail
                go_region_with (go_at_call 37; refine HP.out.mono ?_; rintro e w9 ⟨rfl, h9⟩; obtain ⟨q0, q1, q2, q3, q4, q5⟩ := ccells h9; obtain ⟨t0, t1, t2, t3, t4, t5⟩ := cfrozen h9)
                all_goals
                  go_wp2_with fail
                  obtain ⟨u0, u1, u2, u3, u4, u5⟩ := csetu h9 rc
                  refine bodyPost_ret (v := .tuple #[.int .i64 rr, .agg rc.cells]) ?_ rfl ⟨rfl, ?_⟩
                  rotate_left
                  exact (Owns.cset h9 rc).drop.drop
                  simp [results, Try.results23, go_sem, czero, u0, u1, u2, u3, u4, u5]
              · have hnp' : ¬ ((0 : Int) < (n' : Int)) := by omega
                have hmp' : (0 : Int) < (m : Int) := by omega
                have hlen : (x3 :: (l.drop (i3 + 1))).length = n0 - i3 := by rw [← Hdr3.out, List.length_drop, ← HN.out]
                have hk3 : Reads w0 (cobj B czero :: cobj A ⟨reg, cn, op, ⟨#[]⟩, 0, ⟨#[]⟩⟩ :: R) 1 (.slice (some ⟨b, o + i3, none⟩) (x3 :: (l.drop (i3 + 1))).length (kc - i3)) (x3 :: (l.drop (i3 + 1))).length (kints .u8 (x3 :: (l.drop (i3 + 1)))) := fun W hW => by
                  have h := (Hk.out W hW.drop.drop).post (q := i3) (by have := HN.out; omega) (a2 := some ⟨b, o + i3, none⟩) (by rw [if_neg (by omega), Option.map_some, Addr.add_lit])
                  rw [← Hdr3.out, List.length_drop]
                  simpa [kints, List.map_drop] using h
                have hbx : bytesB (x3 :: (l.drop (i3 + 1))) := fun y hy => Hb.out y (List.mem_of_mem_drop (i := i3) (by rw [Hdr3.out]; exact hy))
                have hp := trest_op (x := x3) (l := (l.drop (i3 + 1))) reg cn op Hop1.out Hop2.out false ⟨#[]⟩ 0 ⟨#[]⟩ hbx (by rw [List.length_cons] at hlen; omega) H5.out.drew hk3
                rw [hlen, Hsp.out] at hp
                dsimp only at hp
                have HP := Lib.hid hp
                obtain ⟨z0, z1, z2, z3, z4, z5⟩ := ccellsM H5.out.p1
                have hi0 : (0 : Int) ≤ (i3 : Nat) := by omega
                have hin : ((i3 : Nat) : Int) ≤ (n0 : Int) := by omega
                have hne : ¬ kc = i3 := by omega
                clear hp hk3 hlen hbx
                go_wp2_with fail
                go_region_with (go_at_call 37; refine HP.out.mono ?_; rintro e w9 ⟨rfl, h9⟩; obtain ⟨q0, q1, q2, q3, q4, q5⟩ := ccells h9; obtain ⟨t0, t1, t2, t3, t4, t5⟩ := cfrozen h9)
                all_goals
                  go_wp2_with fail
                  obtain ⟨u0, u1, u2, u3, u4, u5⟩ := csetu h9 rc
                  refine bodyPost_ret (v := .tuple #[.int .i64 rr, .agg rc.cells]) ?_ rfl ⟨rfl, ?_⟩
                  rotate_left
                  exact (Owns.cset h9 rc).drop.drop
                  simp [results, Try.results23, go_sem, czero, u0, u1, u2, u3, u4, u5]
            · obtain rfl : n' = 0 := by omega
              obtain rfl : m = 0 := by omega
              obtain rfl : cn = 0 := by rw [hcn]; rfl
              replace Hsp := Lib.hid (show restT false ⟨reg, 0, op, ⟨#[]⟩, 0, ⟨#[]⟩⟩ x3 (l.drop (i3 + 1)) = (rr, rc) from Hsp.out)
              clear hcn hnu hdr3 hx3 Htc Hnum hpos hsp
              have hlen : (x3 :: (l.drop (i3 + 1))).length = n0 - i3 := by rw [← Hdr3.out, List.length_drop, ← HN.out]
              have hk3 : Reads w0 (cobj B czero :: cobj A ⟨reg, 0, op, ⟨#[]⟩, 0, ⟨#[]⟩⟩ :: R) 1 (.slice (some ⟨b, o + i3, none⟩) (x3 :: (l.drop (i3 + 1))).length (kc - i3)) (x3 :: (l.drop (i3 + 1))).length (kints .u8 (x3 :: (l.drop (i3 + 1)))) := fun W hW => by
                have h := (Hk.out W hW.drop.drop).post (q := i3) (by have := HN.out; omega) (a2 := some ⟨b, o + i3, none⟩) (by rw [if_neg (by omega), Option.map_some, Addr.add_lit])
                rw [← Hdr3.out, List.length_drop]
                simpa [kints, List.map_drop] using h
              have hbx : bytesB (x3 :: (l.drop (i3 + 1))) := fun y hy => Hb.out y (List.mem_of_mem_drop (i := i3) (by rw [Hdr3.out]; exact hy))
              have hp := trest_op (x := x3) (l := (l.drop (i3 + 1))) reg 0 op Hop1.out Hop2.out false ⟨#[]⟩ 0 ⟨#[]⟩ hbx (by rw [List.length_cons] at hlen; omega) H3.out.drew hk3
              rw [hlen, Hsp.out] at hp
              dsimp only at hp
              have HP := Lib.hid hp
              obtain ⟨z0, z1, z2, z3, z4, z5⟩ := ccellsM H3.out.p1
              have hi0 : (0 : Int) ≤ (i3 : Nat) := by omega
              have hin : ((i3 : Nat) : Int) ≤ (n0 : Int) := by omega
              have hne : ¬ kc = i3 := by omega
              clear hp hk3 hlen hbx
              go_wp2_with fail
              go_region_with (go_at_call 37; refine HP.out.mono ?_; rintro e w9 ⟨rfl, h9⟩; obtain ⟨q0, q1, q2, q3, q4, q5⟩ := ccells h9; obtain ⟨t0, t1, t2, t3, t4, t5⟩ := cfrozen h9)
              all_goals
                go_wp2_with fail
                obtain ⟨u0, u1, u2, u3, u4, u5⟩ := csetu h9 rc
                refine bodyPost_ret (v := .tuple #[.int .i64 rr, .agg rc.cells]) ?_ rfl ⟨rfl, ?_⟩
                rotate_left
                exact (Owns.cset h9 rc).drop.drop
                simp [results, Try.results23, go_sem, czero, u0, u1, u2, u3, u4, u5]
      · have hi2 : i < i' := by omega
        have hij' : ((i' : Int) == (i : Int)) = false := by rw [beq_eq_false_iff_ne]; omega
        have htr2 : tryA false (decide (i' = 0)) reg n' (l.drop i') = (rr, rc) := by
          have := Htr.out
          rw [← tryA_cons, ← Hdr.out, tryA_num _ _ _ _ _ hnu (by simp; have := HN.out; omega)] at this
          rw [decide_eq_false (by omega)]
          exact this
        have Htr2 := Lib.hid htr2
        clear htr2 Htr hnu hij Hnum
        go_wp2_with fail
        go_roundg (n0 - i')
        case measure => omega
        case rel => exact ⟨i', n', reg, by omega, rfl, rfl, hn9', Htr2.out, H2.out⟩
    · obtain rfl : i = n0 := by omega
      obtain ⟨rfl, rfl⟩ : rr = 0 ∧ rc = czero := by rw [List.drop_eq_nil_of_le (by have := HN.out; omega)] at htr; cases htr; exact ⟨rfl, rfl⟩
      clear htr
      go_wp2_with fail
      refine (twait H2.out).mono ?_
      rintro e w9 ⟨rfl, h9⟩
      obtain ⟨q0, q1, q2, q3, q4, q5⟩ := ccells (h9)
      obtain ⟨t0, t1, t2, t3, t4, t5⟩ := cfrozen (h9)
      go_wp2_with fail
      obtain ⟨u0, u1, u2, u3, u4, u5⟩ := csetu (h9) czero
      exact bodyPost_ret (v := .tuple #[.int .i64 0, .agg (czero).cells]) (by (try simp [czero] at u0 u1 u2 u3 u4 u5); simp [results, Try.results23, go_sem, czero, u0, u1, u2, u3, u4, u5]) rfl ⟨rfl, (Owns.cset (h9) czero).drop.drop⟩
end
end Go.Proofs.Ythcamokblkjkkaa
