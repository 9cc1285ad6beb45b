/- Strings as lists of bytes; conversions; put together; cut. No program in sight. -/
import Derived.Test.YthcamokblkjkkaaRangeO
import Derived.Laws.IdiomStrings
import Derived.WalkSpells
import Derived.Lib.SlBytesConst
import Derived.Lib.BufferRead
namespace Go.Fol
open Go Go.RowKit
set_option linter.unusedVariables false
set_option linter.unusedSimpArgs false
/-- bytes as a string, as numbers. -/
def bs (l : List UInt8) : ByteArray := ⟨l.toArray⟩
def bn (l : List UInt8) : List Int := l.map (fun b => (b.toNat : Int))
/-- numbers as bytes. -/
def nb (l : List Int) : List UInt8 := l.map (fun n => UInt8.ofNat n.toNat)
def bytesN (l : List Int) : Prop := ∀ x ∈ l, 0 ≤ x ∧ x ≤ 255
theorem bn_len (l : List UInt8) : (bn l).length = l.length := by simp [bn]
theorem nb_len (l : List Int) : (nb l).length = l.length := by simp [nb]
theorem bs_size (l : List UInt8) : (bs l).size = l.length := by simp [bs, ByteArray.size]
theorem bs_of (s : ByteArray) : s = bs s.data.toList := by simp [bs]
theorem bs_toList (l : List UInt8) : (bs l).toList = l := by rw [ByteArray.toList_eq]; simp [bs]
theorem bs_inj {a b : List UInt8} : bs a = bs b ↔ a = b := ⟨fun h => by rw [← bs_toList a, h, bs_toList], fun h => by rw [h]⟩
theorem bs_data (l : List UInt8) : (bs l).data.toList = l := by simp [bs]
theorem bn_append (a b : List UInt8) : bn (a ++ b) = bn a ++ bn b := by simp [bn]
theorem nb_append (a b : List Int) : nb (a ++ b) = nb a ++ nb b := by simp [nb]
theorem bn_nb {l : List Int} (h : bytesN l) : bn (nb l) = l := by
  induction l with
  | nil => rfl
  | cons x l ih =>
    have hx := h x (by simp)
    simp only [nb, bn, List.map_cons, List.map_map] at ih ⊢
    rw [List.cons.injEq]
    refine ⟨?_, by simpa using ih (fun y hy => h y (by simp [hy]))⟩
    simp
    omega
theorem nb_bn (l : List UInt8) : nb (bn l) = l := by
  induction l with
  | nil => rfl
  | cons x l ih =>
    simp only [nb, bn, List.map_cons, List.map_map] at ih ⊢
    rw [List.cons.injEq]
    exact ⟨by simp, by simpa using ih⟩
theorem bytesN_bn (l : List UInt8) : bytesN (bn l) := by
  intro x hx
  obtain ⟨b, _, rfl⟩ := List.mem_map.1 hx
  have := b.toNat_lt
  omega
theorem bytesN_append {a b : List Int} (ha : bytesN a) (hb : bytesN b) : bytesN (a ++ b) := fun x hx => (List.mem_append.1 hx).elim (ha x) (hb x)
theorem bs_extract (l : List UInt8) (a b : Nat) : (bs l).extract a b = bs ((l.drop a).take (b - a)) := by
  apply ByteArray.ext
  simp only [bs, ByteArray.data_extract]
  apply Array.toList_inj.1
  simp [List.drop_take]
theorem bs_pre (l : List UInt8) (k : Nat) : (bs l).extract 0 k = bs (l.take k) := by rw [bs_extract]; simp
theorem bs_suf (l : List UInt8) (k : Nat) : (bs l).extract k l.length = bs (l.drop k) := by rw [bs_extract, List.take_of_length_le (by simp)]
theorem run_bs_cat {P : Program} {a b : List UInt8} (h : a.length + b.length ≤ 2000000) (w : World) : (Op.stringOp .add (bs a) (bs b)).run P w = .ok (.string (bs (a ++ b))) w := by
  rw [run_string_add w _ _ (by rw [bs_size]; omega) (by rw [bs_size]; omega)]
  exact congrArg (fun x => Result.ok (Value.string x) w) (by apply ByteArray.ext; simp [bs])
theorem bs_cat (a b : List UInt8) : bs a ++ bs b = bs (a ++ b) := by apply ByteArray.ext; simp [bs]
theorem bs_ne {l : List UInt8} (h : l ≠ []) : ¬ (bs l).toList = [] ∧ (bs l).toList.isEmpty = false := by
  rw [bs_toList]
  cases l with
  | nil => exact absurd rfl h
  | cons _ _ => exact ⟨by simp, rfl⟩
section
variable {P : Program} {w0 w : World} {R : List Asrt} {tS tB tb : TypeId}
/-- string(b), b a row of bytes. -/
theorem run_bytes_str (hB : P.underlying tB = some (.slice tb)) (hb : P.underlying tb = some (.int .u8)) (hS : P.underlying tS = some .string) {v : Value} {l : List UInt8} {n : Nat} (h : SrcV w 1 v n (kints .u8 (bn l))) :
    (convert tB tS v).run P w = .ok (.string (bs l)) w := by
  rcases h with ⟨rfl, rfl, e⟩ | ⟨a, c, rfl, h1, h2, h3, h4⟩
  · have hl : l = [] := by
      cases l with
      | nil => rfl
      | cons x l => simp [kints, bn] at e
    subst hl
    exact Lib.run_convert_nil_bytes w tB tS tb 0 hB hb hS
  · have hn : n = l.length := by simpa [kints, bn] using h3.symm
    subst hn
    exact run_convert_bytes_back w tB tS tb a c l hB hb hS (fun j hj => h4 j _ (by simp [kints, bn, hj]))
/-- []byte(s). -/
theorem Owns.bytesOf (hB : P.underlying tB = some (.slice tb)) (hb : P.underlying tb = some (.int .u8)) (hS : P.underlying tS = some .string) {l : List UInt8} (hl : l.length ≤ 2000000) (H : Owns w0 w R) :
    ∃ v w', (convert tS tB (.string (bs l))).run P w = .ok v w' ∧ Owns w0 w' (Asrt.src 1 v l.length (kints .u8 (bn l)) :: R) := by
  have hr := run_bytes_of_string (P := P) w tS tB tb (bs l) hS hB hb
  rw [bs_size] at hr
  obtain ⟨cap, hcap⟩ : ∃ c, c = grownCap w l.length 0 tb := ⟨_, rfl⟩
  have hge := grownCap_ge w l.length 0 tb
  have hle := grownCap_le_maxLen w l.length 0 tb (by unfold maxLen; omega)
  rw [← hcap] at hr hge hle
  refine ⟨_, _, hr, (H.drew).new ((Chg.refl [] _).alloc _) ?_⟩
  by_cases h0 : l.length = 0
  · exact ⟨[], ⟨.inl ⟨h0, rfl⟩, .inr ⟨_, _, rfl, hge, hle, by simp [kints, bn], fun j u hj => by
      have hl0 : l = [] := List.eq_nil_of_length_eq_zero h0
      subst hl0
      simp [kints, bn] at hj⟩⟩, by simp⟩
  · refine ⟨[w.heap.size], ⟨.inr ⟨by omega, by decide, rfl⟩, .inr ⟨_, _, rfl, hge, hle, by simp [kints, bn], fun j u hj => ?_⟩⟩, by simp⟩
    rw [Addr.add_lit, Nat.zero_add]
    refine cell_of_heap (heap_alloc_new _ _) ?_
    have hj' : j < l.length := by
      have := (List.getElem?_eq_some_iff.1 hj).1
      simpa [kints, bn] using this
    simp only [kints, bn, List.map_map] at hj
    rw [List.getElem?_map, List.getElem?_eq_getElem hj'] at hj
    cases hj
    unfold bytesRow
    rw [Array.getElem?_append_left (by simp [bs]; exact hj')]
    simp [bs, hj']
/-- The same, the block itself: of the bytes, with what may lie behind. -/
theorem Owns.bytesObj (hB : P.underlying tB = some (.slice tb)) (hb : P.underlying tb = some (.int .u8)) (hS : P.underlying tS = some .string) {l : List UInt8} (hl : l.length ≤ 2000000) (H : Owns w0 w R) :
    ∃ (cap : Nat) (cs : Array Value) (w' : World), l.length ≤ cap ∧ cap ≤ maxLen ∧ cs.size = cap ∧ cs.toList.take l.length = kints .u8 (bn l) ∧ (convert tS tB (.string (bs l))).run P w = .ok (.slice (some ⟨w.heap.size, 0, none⟩) l.length cap) w' ∧ Owns w0 w' (Asrt.obj w.heap.size (.cells cs tb (cap, cap + 1)) :: R) := by
  have hr := run_bytes_of_string (P := P) w tS tB tb (bs l) hS hB hb
  rw [bs_size] at hr
  obtain ⟨cap, hcap⟩ : ∃ c, c = grownCap w l.length 0 tb := ⟨_, rfl⟩
  have hge := grownCap_ge w l.length 0 tb
  have hle := grownCap_le_maxLen w l.length 0 tb (by unfold maxLen; omega)
  rw [← hcap] at hr hge hle
  have hsz : (bytesRow (bs l) cap).size = cap := by
    unfold bytesRow
    rw [Array.size_append, Array.size_map, Array.size_replicate, bs_size]
    show (bs l).size + _ = _
    rw [bs_size]
    omega
  rw [hsz] at hr
  refine ⟨cap, bytesRow (bs l) cap, _, hge, hle, hsz, ?_, hr, (H.drew).allocO _⟩
  unfold bytesRow
  rw [Array.toList_append, List.take_left' (by simp [bs])]
  simp [bs, kints, bn]
theorem Owns.srcOfObj {b n c : Nat} {cs : Array Value} {t : TypeId} {f : Nat × Nat} (H : Owns w0 w (Asrt.obj b (.cells cs t f) :: R)) (hn : n ≤ c) (hc : c ≤ maxLen) (hl : n ≤ cs.size) :
    Owns w0 w (Asrt.src 1 (.slice (some ⟨b, 0, none⟩) n c) n (cs.toList.take n) :: R) := by
  have hr := Reads.obj (w0 := w0) (R := Asrt.obj b (.cells cs t f) :: R) (k := 1) (n := n) (c := c) List.mem_cons_self hn hc (by omega) w H
  rw [Nat.mul_one] at hr
  refine H.step1 (fun F ⟨e1, h⟩ _ => ?_)
  subst e1
  by_cases h0 : n = 0
  · exact ⟨Chg.refl _ _, [], ⟨.inl ⟨h0, rfl⟩, hr⟩, fun b hb => by cases hb⟩
  · exact ⟨Chg.refl _ _, [b], ⟨.inr ⟨by omega, by decide, rfl⟩, hr⟩, fun b hb => .inl hb⟩
theorem frozen_mark {b j m : Nat} {cs : Array Value} {t : TypeId} (h : w.heap[b]? = some (.cells cs t (m, m + 1))) (hj : j < m) : w.frozen? ⟨b, j, none⟩ = false := by
  simp [World.frozen?, h]
  omega
end
end Go.Fol
