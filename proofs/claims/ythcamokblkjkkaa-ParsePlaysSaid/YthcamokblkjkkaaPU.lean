/- The example of the laws on parsers holds. -/
import Derived.Test.YthcamokblkjkkaaPQ
import Derived.Lib.SlBytesConst
namespace Go.Proofs.Ythcamokblkjkkaa
open Go Go.RowKit Go.Fol
attribute [local go_sem ↓] Go.wp_at_zero Go.wp_at_succ
set_option linter.unusedVariables false
set_option linter.unusedSimpArgs false
def kst (i : Nat) : PSt := (([50, 100, 51] : List Int).take i).foldl (fun s c => (feedF s c false).2.2) pzero
theorem kst_feed : ∀ i, i < 3 → ∀ c, ([50, 100, 51, 119] : List Int)[i]? = some c → 0 ≤ c ∧ c ≤ 255 ∧ feedF (kst i) c false = (0, czero, kst (i + 1)) ∧ (kst (i + 1)).opn = true := by
  intro i hi c hc
  rcases (show i = 0 ∨ i = 1 ∨ i = 2 by omega) with rfl | rfl | rfl
  all_goals
    simp at hc
    subst hc
    exact ⟨by decide, by decide, rfl, rfl⟩
theorem kst_last : feedF (kst 3) 119 false = (1, ⟨0, 6, ⟨#[100]⟩, ⟨#[119]⟩, 0, ⟨#[]⟩⟩, pzero) := rfl
theorem kst_bell : feedF pzero 122 false = (2, czero, pzero) := rfl
theorem kst_ok (i : Nat) : (kst i).ok := by
  unfold kst
  generalize ([50, 100, 51] : List Int).take i = l
  have : ∀ (l : List Int) (s : PSt), s.ok → (l.foldl (fun s c => (feedF s c false).2.2) s).ok := by
    intro l
    induction l with
    | nil => exact fun s h => h
    | cons c l ih => exact fun s h => ih _ (ok_feed h)
  exact this l pzero ok_zero
section
variable {w0 w : World} {R : List Asrt}
set_option maxHeartbeats 4000000 in
theorem known_true (H : Owns w0 w R) : Calls Try.prog 11 #[] w (Ret (.bool true) w0 R) := by
  have HH := Lib.hid H
  have kc := fun (w : World) (C : Array Value) (n c : Nat) => Lib.run_convert_bytes_const (P := Try.prog) w 22 5 C n c Try.underlying22 Try.underlying5
  clear H
  go_enter Try.func11, Try.ntmps11
  go_wp2_with fail
  refine (pnew HH.out).mono ?_
  rintro e w1 ⟨p, rfl, h1⟩
  have h2 := h1.allocO (.cells #[.int .u8 50, .int .u8 100, .int .u8 51, .int .u8 119] 5 (4, 5))
  obtain ⟨W2, hW2⟩ : ∃ W2, w1.alloc (.cells #[.int .u8 50, .int .u8 100, .int .u8 51, .int .u8 119] 5 (4, 5)) = W2 := ⟨_, rfl⟩
  obtain ⟨K, hK⟩ : ∃ K, K = w1.heap.size := ⟨_, rfl⟩
  rw [hW2, ← hK] at h2
  have H2 := Lib.hid h2
  have HW2 := Lib.hid hW2
  have HK := Lib.hid hK
  clear h1 h2 hW2 hK HH
  go_upto_region 5 with (fail)
  rw [← HK.out]
  rw [HW2.out]
  clear HW2 HK
  have heq : ∀ w, (Op.equalIn 10000 33 (.agg #[.int .u8 0, .int .i64 0, .string ⟨#[]⟩, .string ⟨#[]⟩, .int .u8 0, .string ⟨#[]⟩]) (.agg #[.int .u8 0, .int .i64 0, .string ⟨#[]⟩, .string ⟨#[]⟩, .int .u8 0, .string ⟨#[]⟩])).run Try.prog w = .ok true w := fun w => eqin_cmd czero w
  go_wp2_with fail
  go_loopw [3] (fun q wr => ∃ i : Nat, i ≤ 3 ∧ q = .int .i64 i ∧ Owns w0 wr (pobj p (kst i) :: Asrt.obj K (.cells #[.int .u8 50, .int .u8 100, .int .u8 51, .int .u8 119] 5 (4, 5)) :: R)) (fun q _ => 3 - (intOf q).toNat)
  case atStart => exact ⟨0, by decide, rfl, H2.out.p1⟩
  case round =>
    obtain ⟨i, hi, rfl, h3⟩ := hrel
    by_cases hlt : i < 3
    · rcases (show i = 0 ∨ i = 1 ∨ i = 2 by omega) with rfl | rfl | rfl
      · have kx : wr.cell? ⟨K, 0, none⟩ = some (.int .u8 50) := h3.p1.cell (j := 0) rfl
        obtain ⟨_, _, hfe, hop⟩ := kst_feed 0 (by decide) 50 rfl
        have hp := pfeed false (by decide) (by decide) (kst_ok 0) h3 (c := 50)
        rw [hfe] at hp
        replace hp : Calls Try.prog 14 #[.pointer (some ⟨p, 0, none⟩), .int .u8 50, .bool false] wr (Ret (.tuple #[.int .i64 0, .agg #[.int .u8 0, .int .i64 0, .string ⟨#[]⟩, .string ⟨#[]⟩, .int .u8 0, .string ⟨#[]⟩]]) w0 (pobj p (kst 1) :: Asrt.obj K (.cells #[.int .u8 50, .int .u8 100, .int .u8 51, .int .u8 119] 5 (4, 5)) :: R)) := hp
        have Hp := Lib.hid hp
        have Hop := Lib.hid hop
        clear hp hfe hop h3 hi hlt
        go_wp2_with fail
        refine Hp.out.mono ?_
        rintro e w5 ⟨rfl, h5⟩
        have h6 := h5.alloc #[.int .u8 0, .int .i64 0, .string ⟨#[]⟩, .string ⟨#[]⟩, .int .u8 0, .string ⟨#[]⟩] 33
        have ho := popen h6.p1
        rw [Hop.out] at ho
        have HO := Lib.hid ho
        have H6 := Lib.hid h6
        clear h5 h6 ho Hp
        go_wp2_with fail
        refine HO.out.mono ?_
        rintro e w' ⟨rfl, rfl⟩
        go_wp2_with fail
        go_roundw
        case rel => exact ⟨1, by decide, by go_num, H6.out.drop⟩
        case measure => simp [intOf]
      · have kx : wr.cell? ⟨K, 1, none⟩ = some (.int .u8 100) := h3.p1.cell (j := 1) rfl
        obtain ⟨_, _, hfe, hop⟩ := kst_feed 1 (by decide) 100 rfl
        have hp := pfeed false (by decide) (by decide) (kst_ok 1) h3 (c := 100)
        rw [hfe] at hp
        replace hp : Calls Try.prog 14 #[.pointer (some ⟨p, 0, none⟩), .int .u8 100, .bool false] wr (Ret (.tuple #[.int .i64 0, .agg #[.int .u8 0, .int .i64 0, .string ⟨#[]⟩, .string ⟨#[]⟩, .int .u8 0, .string ⟨#[]⟩]]) w0 (pobj p (kst 2) :: Asrt.obj K (.cells #[.int .u8 50, .int .u8 100, .int .u8 51, .int .u8 119] 5 (4, 5)) :: R)) := hp
        have Hp := Lib.hid hp
        have Hop := Lib.hid hop
        clear hp hfe hop h3 hi hlt
        go_wp2_with fail
        refine Hp.out.mono ?_
        rintro e w5 ⟨rfl, h5⟩
        have h6 := h5.alloc #[.int .u8 0, .int .i64 0, .string ⟨#[]⟩, .string ⟨#[]⟩, .int .u8 0, .string ⟨#[]⟩] 33
        have ho := popen h6.p1
        rw [Hop.out] at ho
        have HO := Lib.hid ho
        have H6 := Lib.hid h6
        clear h5 h6 ho Hp
        go_wp2_with fail
        refine HO.out.mono ?_
        rintro e w' ⟨rfl, rfl⟩
        go_wp2_with fail
        go_roundw
        case rel => exact ⟨2, by decide, by go_num, H6.out.drop⟩
        case measure => simp [intOf]
      · have kx : wr.cell? ⟨K, 2, none⟩ = some (.int .u8 51) := h3.p1.cell (j := 2) rfl
        obtain ⟨_, _, hfe, hop⟩ := kst_feed 2 (by decide) 51 rfl
        have hp := pfeed false (by decide) (by decide) (kst_ok 2) h3 (c := 51)
        rw [hfe] at hp
        replace hp : Calls Try.prog 14 #[.pointer (some ⟨p, 0, none⟩), .int .u8 51, .bool false] wr (Ret (.tuple #[.int .i64 0, .agg #[.int .u8 0, .int .i64 0, .string ⟨#[]⟩, .string ⟨#[]⟩, .int .u8 0, .string ⟨#[]⟩]]) w0 (pobj p (kst 3) :: Asrt.obj K (.cells #[.int .u8 50, .int .u8 100, .int .u8 51, .int .u8 119] 5 (4, 5)) :: R)) := hp
        have Hp := Lib.hid hp
        have Hop := Lib.hid hop
        clear hp hfe hop h3 hi hlt
        go_wp2_with fail
        refine Hp.out.mono ?_
        rintro e w5 ⟨rfl, h5⟩
        have h6 := h5.alloc #[.int .u8 0, .int .i64 0, .string ⟨#[]⟩, .string ⟨#[]⟩, .int .u8 0, .string ⟨#[]⟩] 33
        have ho := popen h6.p1
        rw [Hop.out] at ho
        have HO := Lib.hid ho
        have H6 := Lib.hid h6
        clear h5 h6 ho Hp
        go_wp2_with fail
        refine HO.out.mono ?_
        rintro e w' ⟨rfl, rfl⟩
        go_wp2_with fail
        go_roundw
        case rel => exact ⟨3, by decide, by go_num, H6.out.drop⟩
        case measure => simp [intOf]
    · obtain rfl : i = 3 := by omega
      have kx : wr.cell? ⟨K, 3, none⟩ = some (.int .u8 119) := h3.p1.cell (j := 3) rfl
      have hp := pfeed false (by decide) (by decide) (kst_ok 3) h3 (c := 119)
      rw [kst_last] at hp
      replace hp : Calls Try.prog 14 #[.pointer (some ⟨p, 0, none⟩), .int .u8 119, .bool false] wr (Ret (.tuple #[.int .i64 1, .agg #[.int .u8 0, .int .i64 6, .string ⟨#[100]⟩, .string ⟨#[119]⟩, .int .u8 0, .string ⟨#[]⟩]]) w0 (pobj p pzero :: Asrt.obj K (.cells #[.int .u8 50, .int .u8 100, .int .u8 51, .int .u8 119] 5 (4, 5)) :: R)) := hp
      have Hp := Lib.hid hp
      clear hp h3 hi hlt heq
      go_wp2_with fail
      refine Hp.out.mono ?_
      rintro e w5 ⟨rfl, h5⟩
      have h6 := h5.alloc #[.int .u8 0, .int .i64 6, .string ⟨#[100]⟩, .string ⟨#[119]⟩, .int .u8 0, .string ⟨#[]⟩] 33
      obtain ⟨W6, hW6⟩ : ∃ W6, w5.alloc (.cells #[.int .u8 0, .int .i64 6, .string ⟨#[100]⟩, .string ⟨#[119]⟩, .int .u8 0, .string ⟨#[]⟩] 33) = W6 := ⟨_, rfl⟩
      obtain ⟨C, hC⟩ : ∃ C, C = w5.heap.size := ⟨_, rfl⟩
      rw [hW6, ← hC] at h6
      have HW6 := Lib.hid hW6
      have HC := Lib.hid hC
      have hp := pfeed false (by decide) (by decide) ok_zero h6.p1 (c := 122)
      rw [kst_bell] at hp
      replace hp : Calls Try.prog 14 #[.pointer (some ⟨p, 0, none⟩), .int .u8 122, .bool false] W6 (Ret (.tuple #[.int .i64 2, .agg #[.int .u8 0, .int .i64 0, .string ⟨#[]⟩, .string ⟨#[]⟩, .int .u8 0, .string ⟨#[]⟩]]) w0 (pobj p pzero :: Asrt.obj C (.cells #[.int .u8 0, .int .i64 6, .string ⟨#[100]⟩, .string ⟨#[119]⟩, .int .u8 0, .string ⟨#[]⟩] 33 (0, 0)) :: Asrt.obj K (.cells #[.int .u8 50, .int .u8 100, .int .u8 51, .int .u8 119] 5 (4, 5)) :: R)) := hp
      have Hp2 := Lib.hid hp
      clear h5 h6 hW6 hC hp Hp
      go_upto_region 12 with (fail)
      rw [HW6.out, ← HC.out]
      clear HW6 HC
      go_wp2_with fail
      refine Hp2.out.mono ?_
      rintro e w7 ⟨rfl, h7⟩
      have h8 := h7.alloc #[.int .u8 0, .int .i64 0, .string ⟨#[]⟩, .string ⟨#[]⟩, .int .u8 0, .string ⟨#[]⟩] 33
      have heq : ∀ w, (Op.equalIn 10000 33 (.agg #[.int .u8 0, .int .i64 6, .string ⟨#[100]⟩, .string ⟨#[119]⟩, .int .u8 0, .string ⟨#[]⟩]) (.agg #[.int .u8 0, .int .i64 6, .string ⟨#[100]⟩, .string ⟨#[119]⟩, .int .u8 0, .string ⟨#[]⟩])).run Try.prog w = .ok true w := fun w => eqin_cmd ⟨0, 6, ⟨#[100]⟩, ⟨#[119]⟩, 0, ⟨#[]⟩⟩ w
      have c0 := h8.p2.cell (j := 0) rfl
      have c1 := h8.p2.cell (j := 1) rfl
      have c2 := h8.p2.cell (j := 2) rfl
      have c3 := h8.p2.cell (j := 3) rfl
      have c4 := h8.p2.cell (j := 4) rfl
      have c5 := h8.p2.cell (j := 5) rfl
      have HO := Lib.hid (popen h8.p1)
      have HM1 := Lib.hid (pMotion ⟨#[103, 101]⟩ (w7.alloc (.cells #[.int .u8 0, .int .i64 0, .string ⟨#[]⟩, .string ⟨#[]⟩, .int .u8 0, .string ⟨#[]⟩] 33)) (by decide))
      have HM2 := Lib.hid (pMotion ⟨#[120]⟩ (w7.alloc (.cells #[.int .u8 0, .int .i64 0, .string ⟨#[]⟩, .string ⟨#[]⟩, .int .u8 0, .string ⟨#[]⟩] 33)) (by decide))
      have H8 := Lib.hid h8
      clear h7 h8 Hp2
      go_wp2_with fail
      refine HO.out.mono ?_
      rintro e w' ⟨rfl, rfl⟩
      rw [show pzero.opn = false from rfl]
      go_wp2_with fail
      refine HM1.out.mono ?_
      rintro e w' ⟨rfl, rfl⟩
      rw [show motionB (⟨#[103, 101]⟩ : ByteArray).toList = true by rw [ByteArray.toList_eq]; rfl]
      go_wp2_with fail
      refine HM2.out.mono ?_
      rintro e w' ⟨rfl, rfl⟩
      rw [show motionB (⟨#[120]⟩ : ByteArray).toList = false by rw [ByteArray.toList_eq]; rfl]
      go_wp2_with fail
      go_ret
      exact ⟨rfl, H8.out.drop.drop.drop.drop⟩
end
end Go.Proofs.Ythcamokblkjkkaa
