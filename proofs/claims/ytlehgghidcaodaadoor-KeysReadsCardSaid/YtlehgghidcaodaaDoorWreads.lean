/- The law KeysReads on values that read. -/
import Derived.Test.YtlehgghidcaodaaDoorWback
namespace Go.Proofs.YtlehgghidcaodaaDoor
open Go Go.RowKit Go.Fol
attribute [local go_sem ↓] Go.wp_at_zero Go.wp_at_succ
set_option linter.unusedVariables false
set_option linter.unusedSimpArgs false
/-- What is read back, as a slice of bytes and whether it is one. -/
def okV : Option (List Int) → Bool | some _ => true | none => false
def keysV : Option (List Int) → List UInt8 | some K => nb K | none => []
theorem parseRet_src {o : Option (List Int)} {w0 w' : World} {R : List Asrt} {e : Ending} (hb : ∀ K, o = some K → bytesN K) (h : ParseRet o w0 R e w') :
    ∃ (a : Option Addr) (n c : Nat), e = .returned (.tuple #[.slice a n c, .bool (okV o)]) ∧ Owns w0 w' (Asrt.src 1 (.slice a n c) n (kints .u8 (bn (keysV o))) :: R) := by
  rcases h with ⟨rfl, rfl, h⟩ | ⟨K, v, rfl, rfl, h⟩
  · exact ⟨none, 0, 0, rfl, h.srcNil⟩
  · obtain ⟨a, c, rfl⟩ := row_slice h.row
    refine ⟨a, K.length, c, rfl, ?_⟩
    rw [keysV, bn_nb (hb K rfl)]
    exact h.srcOfRow (by decide)
theorem parseN_bytes : ∀ (n : Nat) (s : List UInt8) (K : List Int), parseN n s = some K → bytesN K
  | 0, _, K, h => by cases h; exact fun x hx => by cases hx
  | n + 1, s, K, h => by
    simp only [parseN] at h
    split at h
    · cases h; exact fun x hx => by cases hx
    · split at h
      · cases h
      · rename_i c hc
        have hc' : c < 256 := by
          unfold firstK at hc
          exact List.mem_range.1 (List.mem_of_find?_eq_some hc)
        obtain ⟨K', hK', rfl⟩ := Option.map_eq_some_iff.1 h
        intro x hx
        rcases List.mem_cons.1 hx with rfl | hx
        · omega
        · exact parseN_bytes n _ K' hK' x hx
set_option maxHeartbeats 4000000 in
set_option maxRecDepth 100000 in
theorem keysReads_walk (w : World) (v0 v1 v2 v3 : Value) (a0 : Arg Tryd.prog w 9 v0) (a1 : Arg Tryd.prog w 22 v1) (a2 : Arg Tryd.prog w 5 v2) (a3 : Arg Tryd.prog w 5 v3) (hL : laidMetH Tryd.prog Rows.keysReadsRow.laid w) (hS : w.ShapedOpen Tryd.prog) :
    Calls Tryd.prog 4 #[v0, v1, v2, v3] w fun e w' => e = .returned (.bool true) ∧ Below w.heap.size w w' := by
  obtain ⟨sb, rfl, hsb⟩ := arg_string Tryd.underlying9 a0
  obtain ⟨S, rfl⟩ : ∃ S, sb = bs S := ⟨_, bs_of sb⟩
  rw [bs_size] at hsb
  obtain ⟨K, hK, hb, hnc⟩ := arg_bytes a1
  obtain ⟨at_, rfl, hat⟩ := arg_int Tryd.underlying5 a2
  obtain ⟨c, rfl, hc⟩ := arg_int Tryd.underlying5 a3
  obtain ⟨hat0, hat1⟩ := wf_u8 hat
  obtain ⟨hc0, hc1⟩ := wf_u8 hc
  obtain ⟨n, hn⟩ : ∃ n, n = K.length := ⟨_, rfl⟩
  rw [← hn] at hK hnc
  obtain ⟨ka, kc, rfl⟩ := hK.form
  have hn63 := hK.n63
  have hss : (bs S).size = S.length := bs_size S
  have HT : Hid (Pow10 w) := Lib.hid (pow10_of hL)
  have HK := Lib.hid (show Reads w [] 1 (.slice ka n kc) n (kints .u8 K) from Reads.old hK)
  have Hn := Lib.hid hn
  have Hb := Lib.hid hb
  clear a0 a1 a2 a3 hL hS hK hb hn hat hc
  go_enter Tryd.func4, Tryd.ntmps4
  go_wp2_with fail
  refine (known_true HT.out (Owns.start w)).mono ?_
  rintro e w1 ⟨rfl, h1⟩
  have H1 := Lib.hid h1
  clear h1 HT
  by_cases hs100 : S.length ≤ 100
  rotate_left
  · go_wp2_with fail
    go_ret
    exact ⟨rfl, H1.out.below⟩
  by_cases hn40 : n ≤ 40
  rotate_left
  · go_wp2_with fail
    go_ret
    exact ⟨rfl, H1.out.below⟩
  have htx := wtext Hb.out (by have := Hn.out; omega) H1.out (by rw [← Hn.out]; exact HK.out)
  have hlen : (textL K).length ≤ 200 := by have := textL_len K; have := Hn.out; omega
  obtain ⟨T, hT⟩ : ∃ T, T = textL K := ⟨_, rfl⟩
  rw [← hT] at htx hlen
  have Htx := Lib.hid htx
  clear htx hT
  go_wp2_with fail
  refine Htx.out.mono ?_
  rintro e w2 ⟨rfl, h2⟩
  obtain ⟨cap, cs, w3, hcap, hcm, hcs, htk, hrun, h3⟩ := Owns.bytesObj (P := Tryd.prog) (tS := 9) (tB := 22) (tb := 5) Tryd.underlying22 Tryd.underlying5 Tryd.underlying9 (l := T) (by omega) h2
  obtain ⟨b, hbb⟩ : ∃ b, b = w2.heap.size := ⟨_, rfl⟩
  rw [← hbb] at hrun h3
  obtain ⟨t, ht⟩ : ∃ t, t = T.length := ⟨_, rfl⟩
  rw [← ht] at hcap htk hrun hlen
  have H3 := Lib.hid h3
  have Hcs := Lib.hid hcs
  have Htk := Lib.hid htk
  have Ht := Lib.hid ht
  clear h2 h3 Htx H1 hcs htk ht hbb
  go_upto_if 31 with (fail)
  go_cut [] (fun wx => ∃ L' : List UInt8, L'.length = t ∧ Owns w wx [Asrt.src 1 (.slice (some ⟨b, 0, none⟩) t cap) t (kints .u8 (bn L'))])
  case first =>
    have hcs0 : cs.size = cap := Hcs.out
    by_cases ht0 : t = 0
    · subst ht0
      have h4 := H3.out.srcOfObj (n := 0) (c := cap) hcap hcm (by omega)
      rw [Htk.out] at h4
      have H4 := Lib.hid h4
      clear h4 hcs0
      go_wp2_with fail
      go_meet
      exact ⟨T, Ht.out.symm, H4.out⟩
    · obtain ⟨j, hj⟩ : ∃ j : Nat, at_ % (t : Int) = (j : Int) := ⟨(at_ % (t : Int)).toNat, by have := Int.emod_nonneg at_ (b := (t : Int)) (by omega); omega⟩
      have hjt : j < t := by have := Int.emod_lt_of_pos at_ (b := (t : Int)) (by omega); omega
      have hjT : j < T.length := by rw [← Ht.out]; exact hjt
      obtain ⟨y, hy⟩ : ∃ y, cs[j]? = some y := ⟨cs[j]'(by omega), Array.getElem?_eq_getElem _⟩
      have k1 : w3.cell? ⟨b, j, none⟩ = some y := H3.out.cell hy
      have hy1 : y = .int .u8 (T[j].toNat) := by
        have h1 : (cs.toList.take t)[j]? = some y := by rw [List.getElem?_take_of_lt hjt]; simpa using hy
        rw [Htk.out] at h1
        simp [kints, bn, hjT] at h1
        exact h1.symm
      rw [hy1] at k1
      obtain ⟨z, hz⟩ : ∃ z : Int, z = (T[j].toNat : Int) := ⟨_, rfl⟩
      rw [← hz] at k1
      have f1 : w3.frozen? ⟨b, j, none⟩ = false := frozen_mark H3.out.obj (by omega)
      have h4 := (H3.out.set j (.int .u8 c)).srcOfObj (n := t) (c := cap) hcap hcm (by rw [Array.size_setIfInBounds]; omega)
      have e : (cs.setIfInBounds j (.int .u8 c)).toList.take t = kints .u8 (bn (T.set j (UInt8.ofNat c.toNat))) := by
        rw [Array.toList_setIfInBounds, List.take_set, Htk.out]
        have hcc : ((UInt8.ofNat c.toNat).toNat : Int) = c := by simp; omega
        simp only [kints, bn, List.map_set, hcc]
      rw [e] at h4
      have H4 := Lib.hid h4
      have hlt : (T.set j (UInt8.ofNat c.toNat)).length = t := by rw [List.length_set, Ht.out]
      have Hlt := Lib.hid hlt
      clear h4 e hy hy1 hcs0 hz hjT hlt
      have hwt : decide ((0 : Int) < (t : Int)) = true := decide_eq_true (by omega)
      have htz : ((t : Int) == 0) = false := beq_eq_false_iff_ne.2 (by omega)
      go_wp2_with fail
      go_meet
      exact ⟨_, Hlt.out, H4.out⟩
  case rest =>
  obtain ⟨L', hL', h4⟩ := hcut
  obtain ⟨W4, rfl⟩ : ∃ W4, W4 = wc := ⟨_, rfl⟩
  have cv : (convert 22 9 (.slice (some ⟨b, 0, none⟩) t cap)).run Tryd.prog W4 = .ok (.string (bs L')) W4 :=
    run_bytes_str Tryd.underlying22 Tryd.underlying5 Tryd.underlying9 h4.src
  have h5 := (h4.alloc #[.string (bs S), .string (bs L')] 9).left (R := [_])
  have H5 := Lib.hid h5
  have HL' := Lib.hid hL'
  clear h4 h5 hL' H3 Hcs
  go_wp2_with fail
  go_loopw [45] (fun q wr => ∃ i : Nat, i ≤ 2 ∧ q = .int .i64 i ∧ Owns w wr [Asrt.obj W4.heap.size (.cells #[.string (bs S), .string (bs L')] 9 (0, 0))]) (fun q _ => 2 - (intOf q).toNat)
  case atStart => exact ⟨0, by decide, rfl, H5.out⟩
  case round =>
    obtain ⟨i, hi, rfl, h6⟩ := hrel
    have H6 := Lib.hid h6
    by_cases hlt : i < 2
    · obtain ⟨X, hX, hXl⟩ : ∃ X : List UInt8, wr.cell? ⟨W4.heap.size, i, none⟩ = some (.string (bs X)) ∧ X.length ≤ 200 := by
        rcases (show i = 0 ∨ i = 1 by omega) with rfl | rfl
        · exact ⟨S, h6.cell (j := 0) rfl, by omega⟩
        · exact ⟨L', h6.cell (j := 1) rfl, by have := HL'.out; omega⟩
      have hbO : ∀ K, parseF X = some K → bytesN K := fun K h => parseN_bytes _ _ _ h
      obtain ⟨o, ho⟩ : ∃ o, o = parseF X := ⟨_, rfl⟩
      have hp := fun (W : World) (R : List Asrt) (h : Owns w W R) => (kparse (s := X) (by omega) h)
      have hq := fun (W : World) (R : List Asrt) (h : Owns w W R) => (wparse (s := X) (by omega) h)
      rw [← ho] at hp hq hbO
      have Hp := Lib.hid hp
      have Hq := Lib.hid hq
      have HbO := Lib.hid hbO
      clear hp hq hbO ho h6
      go_wp2_with fail
      refine (Hp.out _ _ H6.out).mono ?_
      intro e w7 h7
      obtain ⟨a7, n7, c7, rfl, h7b⟩ := parseRet_src HbO.out h7
      have H7 := Lib.hid h7b
      clear h7 h7b H6 hX
      obtain ⟨ok, hok⟩ : ∃ ok, ok = okV o := ⟨_, rfl⟩
      rw [← hok]
      have Hok := Lib.hid hok
      clear hok
      go_wp2_with fail
      refine (Hq.out _ _ H7.out).mono ?_
      intro e w8 h8a
      obtain ⟨a8, n8, c8, rfl, h8⟩ := parseRet_src HbO.out h8a
      rw [← Hok.out]
      have cv1 : (convert 22 9 (.slice a7 n7 c7)).run Tryd.prog w8 = .ok (.string (bs (keysV o))) w8 :=
        run_bytes_str Tryd.underlying22 Tryd.underlying5 Tryd.underlying9 h8.p1.src
      have cv2 : (convert 22 9 (.slice a8 n8 c8)).run Tryd.prog w8 = .ok (.string (bs (keysV o))) w8 :=
        run_bytes_str Tryd.underlying22 Tryd.underlying5 Tryd.underlying9 h8.src
      have H8 := Lib.hid (h8.mem (A := Asrt.obj W4.heap.size (.cells #[.string (bs S), .string (bs L')] 9 (0, 0))) (by simp))
      clear h8 h8a H7 Hp Hq
      cases ok
      all_goals
        go_wp2_with fail
        go_roundw
        case rel => exact ⟨i + 1, by omega, by go_num, H8.out⟩
        case measure => simp [intOf]; omega
    · obtain rfl : i = 2 := by omega
      go_wp2_with fail
      go_ret
      exact ⟨rfl, H6.out.below⟩
end Go.Proofs.YtlehgghidcaodaaDoor
