/- The laws' look at a whole table. -/
import Derived.Test.YtdlcmehopnhmgaaCA
import Derived.Test.YtdlcmehopnhmgaaCE
namespace Go.Proofs.Ytdlcmehopnhmgaa
open Go Go.RowKit Go.Fol
attribute [local go_sem ↓] Go.wp_at_zero Go.wp_at_succ
attribute [local go_sem] Oper.semAt_some
attribute [-go_sem] Go.run_string_add_if
set_option linter.unusedVariables false
set_option linter.unusedSimpArgs false
theorem eql_func_nil (fn : Fn) (x y : Array Value) (w : World) : (binOp .eql 37 (.func fn x y) .nilFunc).run Try.prog w = .ok (.bool false) w := by kernel_rfl
section
variable {w0 w : World} {R : List Asrt}
set_option maxHeartbeats 4000000 in
set_option maxRecDepth 100000 in
theorem cwhole {p : Nat} {T : Tb} {tx : List UInt8} {ed : Nat} (H : Owns w0 w (tabA p T :: R)) (hT : T.ok) (htx : T.tx = tx) (hed : T.edits = ed) (hl : T.L.length ≤ 2 * T.edits + 1) :
    Calls Try.prog 13 #[.pointer (some ⟨p, 0, none⟩), .string (bstr tx), .int .i64 ed] w (Ret (.bool true) w0 (tabA p T :: R)) := by
  obtain ⟨b6, hb6⟩ : ∃ b, b = w.heap.size := ⟨_, rfl⟩
  obtain ⟨W1, hW1⟩ : ∃ W1, w.alloc (.cells #[.bool false] 4) = W1 := ⟨_, rfl⟩
  have h1 := H.alloc #[.bool false] 4
  rw [hW1, ← hb6] at h1
  have hsz : T.size = tx.length := by rw [hT.size, htx]
  have htz := bstr_size tx
  have l1 := clen h1.p1
  rw [hsz] at l1
  have s1 := cslice 0 tx.length h1.p1 hT (by omega)
  rw [htx, List.drop_zero, List.take_of_length_le (Nat.le_refl _)] at s1
  have hl2 : ¬ (2 * (ed : Int) + 1 < (T.L.length : Int)) := by omega
  have hl2' : decide (2 * (ed : Int) + 1 < (T.L.length : Int)) = false := by simp; omega
  have he1 : ed ≤ 100000 := by rw [← hed]; exact hT.ed
  have hw1 : IntKind.i64.wrap (2 * (ed : Int)) = 2 * (ed : Int) := by rw [IntKind.wrap_i64]; omega
  have hw2 : IntKind.i64.wrap (2 * (ed : Int) + 1) = 2 * (ed : Int) + 1 := by rw [IntKind.wrap_i64]; omega
  have L1 := Lib.hid l1
  have S1 := Lib.hid s1
  have HT := Lib.hid hT
  have Htx := Lib.hid htx
  have Hed := Lib.hid hed
  have HW1 := Lib.hid hW1
  have B6 := Lib.hid hb6
  clear H h1 l1 s1 hT htx hed hW1 hb6 hl
  refine calls_of_wp_marks Try.func13 rfl ?_
  simp only [Try.ntmps13, List.size_toArray, List.length_cons, List.length_nil, Nat.reduceAdd, Nat.reduceSub, Array.replicate_succ, Array.replicate_zero, List.push_toArray, List.append_toArray, List.nil_append, List.cons_append]
  go_upto_region 1 with (fail)
  rw [HW1.out, ← B6.out]
  clear HW1 B6
  go_wp2_with fail
  refine L1.out.mono ?_
  rintro e w2 ⟨rfl, rfl⟩
  go_wp2_with fail
  refine S1.out.mono ?_
  rintro e w2 ⟨rfl, h2⟩
  have l2 := clen h2
  have l3 := cedits h2
  have l4 := cpieces h2
  rw [Hed.out] at l3
  rw [hsz] at l2
  have L2 := Lib.hid l2
  have L3 := Lib.hid l3
  have L4 := Lib.hid l4
  have H2 := Lib.hid h2
  clear h2 l2 l3 l4 S1 L1
  go_wp2_with (first
    | (go_at_call 14; refine L2.out.mono ?_; rintro e w' ⟨rfl, rfl⟩)
    | (go_at_call 17; refine L3.out.mono ?_; rintro e w' ⟨rfl, rfl⟩)
    | (go_at_call 16; refine L4.out.mono ?_; rintro e w' ⟨rfl, rfl⟩))
  have h3 := H2.out.alloc #[.pointer (some ⟨p, 0, none⟩)] 23
  obtain ⟨bq, hbq⟩ : ∃ b, b = w2.heap.size := ⟨_, rfl⟩
  obtain ⟨b10, hb10⟩ : ∃ b, b = bq + 1 := ⟨_, rfl⟩
  obtain ⟨b11, hb11⟩ : ∃ b, b = b10 + 1 := ⟨_, rfl⟩
  obtain ⟨W4, hW4⟩ : ∃ W4, ((w2.alloc (.cells #[.pointer (some ⟨p, 0, none⟩)] 23)).alloc (.cells #[.string ⟨#[]⟩] 9)).alloc (.cells #[.int .i64 0] 3) = W4 := ⟨_, rfl⟩
  have h4 := (h3.alloc #[.string ⟨#[]⟩] 9).alloc #[.int .i64 0] 3
  rw [hW4] at h4
  simp only [World.size_alloc] at h4
  rw [← hbq, ← hb10, ← hb11] at h4
  have H4 := Lib.hid h4
  have HW4 := Lib.hid hW4
  have BQ := Lib.hid hbq
  have B10 := Lib.hid hb10
  have B11 := Lib.hid hb11
  clear h3 h4 hW4 hbq hb10 hb11 H2 L2 L3 L4
  refine (call_all w2).mono ?_
  rintro e w3 ⟨rfl, rfl⟩
  have hnf := eql_func_nil
  go_upto_region 8 with (fail)
  rw [HW4.out, ← BQ.out, ← B10.out, ← B11.out]
  go_wp2_with fail
  have Hseq := Lib.hid (seq_all (w0 := w0) (b1 := bq) (p := p) HT.out)
  refine wp_range_ownZ (gf := 27) (lb := #[.pointer (some ⟨bq, 0, none⟩)]) rfl (enters_fn Try.func27 (by kernel_rfl) rfl) Hseq.out (fun _ => rfl)
    (R := Asrt.obj b6 (.cells #[.bool false] 4 (0, 0)) :: R)
    (fun k => Asrt.all [Asrt.obj b10 (.cells #[.string (bstr (txs T.first T.added (T.L.take k)))] 9 (0, 0)), Asrt.obj b11 (.cells #[.int .i64 (k : Int)] 3 (0, 0))])
    (fun k a' => Asrt.ex fun X : List UInt8 => Asrt.all [Asrt.pure (X = ptx T.first T.added (pcAt T.L k) ∧ a' = { tmps := #[.pointer (some ⟨p, 0, none⟩), .string (bstr tx), .int .i64 ed, undef, undef, undef, .pointer (some ⟨b6, 0, none⟩), .string (bstr tx), .int .i64 0, .func (.func 27) #[] #[.pointer (some ⟨bq, 0, none⟩)], .pointer (some ⟨b10, 0, none⟩), .pointer (some ⟨b11, 0, none⟩), .string (bstr X), .tuple #[.string (bstr tx), .int .i64 0], .pointer (some ⟨p, 0, none⟩), .pointer (some ⟨p, 0, none⟩), .int .i64 tx.length, .tuple #[.string (bstr tx), .int .i64 0], .string (bstr tx), .int .i64 0, .string (bstr tx), .string (bstr tx), .bool false, .bool false, .int .i64 0, .bool false, .bool false, .bool false, .pointer (some ⟨p, 0, none⟩), .int .i64 tx.length, .string (bstr tx), .int .i64 tx.length, .bool false, .bool false, .bool false, .pointer (some ⟨p, 0, none⟩), .int .i64 ed, .int .i64 ed, .bool false, .bool false, .bool false, .pointer (some ⟨p, 0, none⟩), .int .i64 T.L.length, .int .i64 ed, .int .i64 (2 * (ed : Int)), .int .i64 (2 * (ed : Int) + 1), .bool false, .bool false, .pointer (some ⟨p, 0, none⟩), .func (.func 27) #[] #[.pointer (some ⟨bq, 0, none⟩)], .func (.func 27) #[] #[.pointer (some ⟨bq, 0, none⟩)], .bool false, .func (.func 27) #[] #[.pointer (some ⟨bq, 0, none⟩)], .string (bstr X), undef, undef, undef, undef, undef, undef, undef, undef, undef, undef, undef, undef, undef, undef, undef, undef], defers := [] }), Asrt.obj b10 (.cells #[.string (bstr (txs T.first T.added (T.L.take k)))] 9 (0, 0)), Asrt.obj b11 (.cells #[.int .i64 (k : Int)] 3 (0, 0))])
    (fun _ => Asrt.pure False) ?start ?assign ?body ?done ?stop
  case start =>
    have h5 := (Owns.allI (L := [_, _]) (H4.out.ord [2, 2])).ord [2, 1]
    exact Owns.allI (L := [_, _]) h5
  case assign =>
    intro l k W Kk Z hk HW hkk
    obtain ⟨X, hX⟩ : ∃ X, X = ptx T.first T.added (pcAt T.L k) := ⟨_, rfl⟩
    simp only [← hX]
    have HW1 := Lib.hid (Owns.allE (L := [_, _]) HW)
    have HX := Lib.hid hX
    have Hkk := Lib.hid hkk
    clear HW hkk hX
    gi_wp2
    exact Hkk.out _ _ (Owns.exI X (Owns.allI (L := [_, _, _]) (Owns.pureI HW1.out ⟨HX.out, rfl⟩)))
  case body =>
    intro l k a' W Z hk HW
    obtain ⟨X, HW⟩ := HW.exE
    obtain ⟨⟨hX, rfl⟩, HW'⟩ := (Owns.allE (L := [_, _, _]) HW).pureE
    obtain ⟨q, hq⟩ : ∃ q, T.L[k]? = some q := ⟨_, List.getElem?_eq_getElem hk⟩
    rw [pcAt_of hq] at hX
    have hqo := HT.out.pcs q (List.mem_of_getElem? hq)
    have hsu := begins_succ hq hqo
    have hmo := begins_mono (f := T.first) (a := T.added) (L := T.L) (show k + 1 ≤ T.L.length from hk)
    rw [begins_all] at hmo
    have hts : (txs T.first T.added T.L).length = T.size := HT.out.size.symm
    have hszb := HT.out.sz
    have hXl : X.length = q.n := by rw [hX, ptx_len hqo]
    have hXn : X ≠ [] := by intro h; have := hqo.1; rw [h] at hXl; simp at hXl; omega
    obtain ⟨hne1, hne2⟩ := bstr_ne hXn
    obtain ⟨P, hP⟩ : ∃ P, P = txs T.first T.added (T.L.take k) := ⟨_, rfl⟩
    have hPl : P.length = begins T.first T.added T.L k := by rw [hP]; rfl
    have hnx : P ++ X = txs T.first T.added (T.L.take (k + 1)) := by
      obtain ⟨h1, h2⟩ := List.getElem?_eq_some_iff.1 hq
      rw [List.take_succ_eq_append_getElem h1, h2, txs_append, txs_one, ← hP, ← hX]
    have hcat := run_cat (a := P) (b := X) (by omega)
    rw [← hP] at HW'
    have d10 : W.cell? ⟨b10, 0, none⟩ = some (.string (bstr P)) := HW'.cell (j := 0) rfl
    have g10 : W.frozen? ⟨b10, 0, none⟩ = false := HW'.frozen 0
    have hL := HT.out.ll
    have hwk : IntKind.i64.wrap ((k : Int) + 1) = (k : Int) + 1 := by rw [IntKind.wrap_i64]; omega
    have h6 := HW'.set 0 (.string (bstr (P ++ X)))
    have d11 : (W.setCell ⟨b10, 0, none⟩ (.string (bstr (P ++ X)))).cell? ⟨b11, 0, none⟩ = some (.int .i64 (k : Int)) := h6.p1.cell (j := 0) rfl
    have g11 : (W.setCell ⟨b10, 0, none⟩ (.string (bstr (P ++ X)))).frozen? ⟨b11, 0, none⟩ = false := h6.p1.frozen 0
    have h5 := (((HW'.set 0 (.string (bstr (P ++ X)))).ord [1]).set 0 (.int .i64 ((k : Int) + 1))).ord [1]
    have H5 := Lib.hid h5
    have Hnx := Lib.hid hnx
    clear HW HW' h5 h6 hX hq hqo hsu hmo hts hXl hXn hP hPl hnx
    gi_wp2_with fail
    show Owns w0 _ (Asrt.all [Asrt.obj b10 (.cells #[.string (bstr (txs T.first T.added (T.L.take (k + 1))))] 9 (0, 0)), Asrt.obj b11 (.cells #[.int .i64 ((k + 1 : Nat) : Int)] 3 (0, 0))] :: Z :: _)
    rw [← Hnx.out, Int.natCast_add]
    exact Owns.allI (L := [_, _]) H5.out
  case done =>
    intro D W HW
    have h := Owns.allE (L := [_, _]) HW
    rw [List.take_length] at h
    have htt : txs T.first T.added T.L = tx := Htx.out
    rw [htt] at h
    have h5 : Owns w0 W (tabA p T :: _) := (Owns.allE (L := [_, _]) (h.ord [3])).p1
    have d10 : W.cell? ⟨b10, 0, none⟩ = some (.string (bstr tx)) := h.cell (j := 0) rfl
    have d11 : W.cell? ⟨b11, 0, none⟩ = some (.int .i64 (T.L.length : Int)) := h.p1.cell (j := 0) rfl
    have d6 : W.cell? ⟨b6, 0, none⟩ = some (.bool false) := (h.ord [4]).cell (j := 0) rfl
    have g6 : W.frozen? ⟨b6, 0, none⟩ = false := (h.ord [4]).frozen 0
    have h7 := (h.ord [4]).set 0 (.bool true)
    have e10 : (W.setCell ⟨b6, 0, none⟩ (.bool true)).drew.cell? ⟨b10, 0, none⟩ = some (.string (bstr tx)) := (h7.ord [1]).cell (j := 0) rfl
    have e11 : (W.setCell ⟨b6, 0, none⟩ (.bool true)).drew.cell? ⟨b11, 0, none⟩ = some (.int .i64 (T.L.length : Int)) := (h7.ord [2]).cell (j := 0) rfl
    have l4 := cpieces h5.drew
    have L4 := Lib.hid l4
    have H5 := Lib.hid h
    clear HW h h5 h7 l4 htt
    go_upto_region 14 with (fail)
    go_region_held3 (fun w' => w'.cell? ⟨b10, 0, none⟩ = some (.string (bstr tx)) ∧ w'.cell? ⟨b11, 0, none⟩ = some (.int .i64 (T.L.length : Int))) (first | with_reducible exact ⟨d10, d11⟩ | with_reducible exact ⟨e10, e11⟩ | go_keep)
      ((go_at_call 16; refine L4.out.mono ?_; rintro e w' ⟨rfl, rfl⟩))
    have h6 := (H5.out.drew.ord [4]).set 0 (.bool true)
    have H6 := Lib.hid h6
    clear h6
    go_wp2_with fail
    refine leaves_own [D] _ (H6.out.ord [3]) (fun w' hw' => ?_)
    have u6 : w'.cell? ⟨b6, 0, none⟩ = some (.bool true) := hw'.cell (j := 0) rfl
    exact ⟨.bool true, by simp [results, Try.f13, go_sem, u6], rfl, (Owns.allE (L := [_, _]) hw'.drop.drop.drop).drop⟩
  case stop =>
    intro D c W HW
    obtain ⟨h, _⟩ := HW.pureE
    exact h.elim
end
end Go.Proofs.Ytdlcmehopnhmgaa
