/- The index's answers, in or out, by one contract each; the cells of a row of numbers. -/
import Derived.Test.YtbddehfcamgfhaaWjoins
namespace Go.Proofs.Ytbddehfcamgfhaa
open Go Go.RowKit Go.Fol
set_option linter.unusedVariables false
set_option linter.unusedSimpArgs false
def inl (t : List UInt8) (l : Int) : Bool := decide (0 ≤ l ∧ l < (brk t : Int) + 1)
def stv (t : List UInt8) (l : Int) : Int := if inl t l = true then lstart t l.toNat else 0
def szv (t : List UInt8) (l : Int) : Int := if inl t l = true then (lnext t l.toNat : Int) - 1 - lstart t l.toNat else 0
def inp (t : List UInt8) (l c : Int) : Bool := decide (0 ≤ l ∧ l < (brk t : Int) + 1 ∧ 0 ≤ c ∧ c ≤ (lnext t l.toNat : Int) - 1 - lstart t l.toNat)
def ofv (t : List UInt8) (l c : Int) : Int := if inp t l c = true then (lstart t l.toNat : Int) + c else 0
section
variable {w0 w : World} {R : List Asrt}
theorem istart_any {x : Nat} {t : List UInt8} (l : Int) (H : Owns w0 w (Asrt.idx x t :: R)) :
    Calls Try.prog 10 #[.pointer (some ⟨x, 0, none⟩), .int .i64 l] w fun e w' => e = .returned (.tuple #[.int .i64 (stv t l), .bool (inl t l)]) ∧ w = w' := by
  by_cases h : 0 ≤ l ∧ l < (brk t : Int) + 1
  · have e1 : inl t l = true := by simp [inl, h]
    obtain ⟨n, rfl⟩ := Int.eq_ofNat_of_zero_le h.1
    rw [stv, e1, if_pos rfl]
    exact istart_in H (by omega)
  · have e1 : inl t l = false := by simp only [inl]; exact decide_eq_false h
    rw [stv, e1, if_neg (by simp)]
    exact istart_out H h
theorem isize_any {x : Nat} {t : List UInt8} (l : Int) (H : Owns w0 w (Asrt.idx x t :: R)) (hb : t.length ≤ 1000000) :
    Calls Try.prog 11 #[.pointer (some ⟨x, 0, none⟩), .int .i64 l] w fun e w' => e = .returned (.tuple #[.int .i64 (szv t l), .bool (inl t l)]) ∧ w = w' := by
  by_cases h : 0 ≤ l ∧ l < (brk t : Int) + 1
  · have e1 : inl t l = true := by simp [inl, h]
    obtain ⟨n, rfl⟩ := Int.eq_ofNat_of_zero_le h.1
    rw [szv, e1, if_pos rfl]
    exact isize_in H (by omega) hb
  · have e1 : inl t l = false := by simp only [inl]; exact decide_eq_false h
    rw [szv, e1, if_neg (by simp)]
    exact isize_out H h
theorem ioff_any {x : Nat} {t : List UInt8} (l c : Int) (H : Owns w0 w (Asrt.idx x t :: R)) (hb : t.length ≤ 1000000) :
    Calls Try.prog 12 #[.pointer (some ⟨x, 0, none⟩), .agg #[.int .i64 l, .int .i64 c]] w (Ret (.tuple #[.int .i64 (ofv t l c), .bool (inp t l c)]) w0 (Asrt.idx x t :: R)) := by
  by_cases h : 0 ≤ l ∧ l < (brk t : Int) + 1 ∧ 0 ≤ c ∧ c ≤ (lnext t l.toNat : Int) - 1 - lstart t l.toNat
  · have e1 : inp t l c = true := by simp only [inp]; exact decide_eq_true h
    obtain ⟨n, rfl⟩ := Int.eq_ofNat_of_zero_le h.1
    obtain ⟨m, rfl⟩ := Int.eq_ofNat_of_zero_le h.2.2.1
    rw [ofv, e1, if_pos rfl]
    exact ioff_in H (by omega) h.2.2.2 hb
  · have e1 : inp t l c = false := by simp only [inp]; exact decide_eq_false h
    rw [ofv, e1, if_neg (by simp)]
    exact ioff_out H hb h
/-- The place, whatever it is. -/
theorem iat_any {x : Nat} {t : List UInt8} (off : Int) (H : Owns w0 w (Asrt.idx x t :: R)) (hb : t.length ≤ 1000000) :
    ∃ p q : Int, Calls Try.prog 13 #[.pointer (some ⟨x, 0, none⟩), .int .i64 off] w (Ret (.tuple #[.agg #[.int .i64 p, .int .i64 q], .bool (decide (0 ≤ off ∧ off ≤ t.length))]) w0 (Asrt.idx x t :: R)) := by
  by_cases h : 0 ≤ off ∧ off ≤ t.length
  · rw [decide_eq_true h]
    obtain ⟨n, rfl⟩ := Int.eq_ofNat_of_zero_le h.1
    exact ⟨_, _, iat_in H (by omega) hb⟩
  · rw [decide_eq_false h]
    exact ⟨_, _, iat_out H (by omega)⟩
/-- The cells of a row of numbers. -/
theorem rowcells {g : Nat} {n cap : Nat} {L : List Int} (H : Owns w0 w (row_int (.slice (some ⟨g, 0, none⟩) n cap) n (ints L) :: R)) {q : Nat} {y : Int} (hq : L[q]? = some y) : w.cell? ⟨g, q, none⟩ = some (.int .i64 y) := by
  have := H.row.cells (g := g) rfl q (.int .i64 y) (by simp [ints, hq])
  have e : (⟨g, 0, none⟩ : Addr).add q = ⟨g, q, none⟩ := by cases q <;> simp [Addr.add]
  rwa [e] at this
theorem rowform {n : Nat} {v : Value} {L : List Int} (H : Owns w0 w (row_int v n (ints L) :: R)) (h0 : 0 < n) : ∃ g cap, v = .slice (some ⟨g, 0, none⟩) n cap ∧ n ≤ cap := by
  rcases row_form H.row with ⟨_, rfl, _⟩ | ⟨g, cap, cur, rfl, hg, hnc, hm, hcs, htk, hxl⟩
  · omega
  · exact ⟨g, cap, rfl, hnc⟩
end
theorem bnd_cell {t : List UInt8} {k : Nat} (h : k ≤ brk t + 1) : ((starts t).map (fun n : Nat => (n : Int)) ++ [((t.length + 1 : Nat) : Int)])[k]? = some (bnd t k : Int) := by
  have h1 : (starts t ++ [t.length + 1])[k]? = some (bnd t k) := by
    unfold bnd
    have : k < (starts t ++ [t.length + 1]).length := by simp [starts_len]; omega
    rw [List.getElem?_eq_getElem this]; rfl
  have h2 : (starts t).map (fun n : Nat => (n : Int)) ++ [((t.length + 1 : Nat) : Int)] = (starts t ++ [t.length + 1]).map (fun n : Nat => (n : Int)) := by simp
  rw [h2, List.getElem?_map, h1]; rfl
end Go.Proofs.Ytbddehfcamgfhaa
