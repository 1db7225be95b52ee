/- strings.SplitN. -/
import Derived.Test.YtipfekjmcddelaaGreatDoorSpe
import Derived.Test.YtipfekjmcddelaaGreatDoorHb
namespace Go.Proofs.YtipfekjmcddelaaGreatDoor
open Go.RowKit Go.Shelf Go.Lib Go.Joins Go.Sort Go.Proofs.YtipfekjmcddelaaGreatDoorW.zgo
set_option linter.unusedVariables false
set_option linter.unusedSimpArgs false
theorem strs_made_cap (w : World) (xs : List ByteArray) (N : Nat) (hN : xs.length ≤ N) (hm : N ≤ 9223372036854775807) :
    Kd.R Kd.string 9 (w.alloc (.cells (Lib.cellsOf xs N) 9)) w.heap.size (fun _ => True) (.slice (some ⟨w.heap.size, 0, none⟩) xs.length N) xs := by
  refine Kd.zfy ?_ (fun _ _ => trivial)
  refine ⟨by show (xs.map Value.string).length = xs.length * 1; simp, .inr ⟨w.heap.size, N, Lib.cellsOf xs N, rfl, Nat.le_refl _, heap_alloc_new w _, hN, by simpa [maxLen] using hm, ?_, ?_⟩⟩
  · rw [Lib.cellsOf_size hN]; exact (Nat.mul_one N).symm
  · show (Lib.cellsOf xs N).toList.take (xs.length * 1) = xs.map Value.string
    rw [Nat.mul_one]
    simp [Lib.cellsOf]
set_option maxRecDepth 100000 in
theorem splitN_any (s sep : ByteArray) (n : Nat) (w : World) (hT : LaidM w) (hs : s.size < 4294967281) (h1 : 1 ≤ sep.size) (hn : 1 ≤ n) (hn2 : n ≤ 9223372036854775807) :
    Calls Tryz.prog 26 #[.string s, .string sep, .int .i64 n] w fun e w' => ∃ v0_ : Value, e = .returned (v0_) ∧ Kd.R Kd.string 9 w' w.heap.size (fun _ => True) v0_ (Lib.splitB sep 0 (min n (s.size + 1) - 1) s) ∧ Below w.heap.size w w' := by
  obtain ⟨m, hm⟩ := hT.mx
  have k := Any.strings_SplitN (ρ := Tryz.lays147_ren) Tryz.lays147 (by kernel_rfl) s sep n m w hs hm h1 hn hn2
  change Calls Tryz.prog 26 _ _ _ at k
  have hl := Lib.splitB_length_le sep 0 (min n (s.size + 1) - 1) s
  have hq := strs_made_cap w (Lib.splitB sep 0 (min n (s.size + 1) - 1) s) (min n (s.size + 1)) (by omega) (by omega)
  refine k.mono ?_
  rintro e w' ⟨rfl, rfl⟩
  exact ⟨_, rfl, hq, zac (Below.refl _ _) _⟩
end Go.Proofs.YtipfekjmcddelaaGreatDoor
