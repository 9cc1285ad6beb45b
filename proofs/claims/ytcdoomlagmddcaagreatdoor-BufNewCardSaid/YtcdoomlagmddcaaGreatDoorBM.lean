/- make([]byte, k), as a string. -/
import Derived.Test.YtcdoomlagmddcaaGreatDoorBL
namespace Go.Proofs.YtcdoomlagmddcaaGreatDoor
open Go Go.RowKit Go.Fol
set_option linter.unusedVariables false
set_option linter.unusedSimpArgs false
def zeros (k : Nat) : List UInt8 := List.replicate k 0
theorem zeros_len (k : Nat) : (zeros k).length = k := List.length_replicate
theorem zeros_lf (k : Nat) : hasLF (zeros k) = false := by
  cases h : hasLF (zeros k)
  · rfl
  · have := List.eq_of_mem_replicate ((hasLF_iff _).1 h)
    exact absurd this (by decide)
theorem made_zero (k : Nat) : (madeCells #[Value.int .u8 0] k).toList = kints .u8 (bn (zeros k)) := by
  simp only [madeCells, kints, bn, zeros, List.map_map, List.map_replicate, Array.toList_map, Array.toList_range]
  refine List.ext_getElem (by simp) (fun i h1 h2 => ?_)
  simp [Nat.mod_one]
theorem run_make0 (k : Nat) (hk : k ≤ 1000000) (w : World) : (Instr.makeSlice 37 (.int .i64 k) (.int .i64 k)).run Tryz.prog w = .ok (.slice (some ⟨w.heap.size, 0, none⟩) k k) (w.alloc (.cells (madeCells #[Value.int .u8 0] k) 5)) := by
  obtain ⟨i, hi, hz, hs1, hs2⟩ := info_parts info_byte
  have h := run_make (P := Tryz.prog) w 37 5 i (.int .u8 0) Tryz.underlying37 hi hz .i64 .i64 k k (by omega) (by omega) (by rw [hs2]; omega) (by omega)
  rw [hs1, Nat.mul_one] at h
  exact h
section
variable {w0 w : World} {R : List Asrt}
theorem conv0 (k : Nat) (hk : k ≤ 1000000) (w : World) : (convert 37 9 (.slice (some ⟨w.heap.size, 0, none⟩) k k)).run Tryz.prog (w.alloc (.cells (madeCells #[Value.int .u8 0] k) 5)) = .ok (.string (bs (zeros k))) (w.alloc (.cells (madeCells #[Value.int .u8 0] k) 5)) := by
  refine run_bytes_str Tryz.underlying37 Tryz.underlying5 Tryz.underlying9 (n := k) ?_
  have h := srcv_new w (kints .u8 (bn (zeros k))) 5 k 1 (by rw [kints_len, bn_len, zeros_len, Nat.mul_one]) (by unfold maxLen; omega)
  rw [← made_zero] at h ⊢
  exact h
end
end Go.Proofs.YtcdoomlagmddcaaGreatDoor
