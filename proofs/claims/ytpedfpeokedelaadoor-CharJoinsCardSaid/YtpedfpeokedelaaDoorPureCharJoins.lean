/- CharJoins, the plain law. -/
import Derived.Test.YtpedfpeokedelaaDoorXCharJoinsx1
import Derived.Test.YtpedfpeokedelaaDoorVe
namespace Go.Proofs.YtpedfpeokedelaaDoor.Pure
open Go.RowKit Go.Lib Go.Proofs.YtpedfpeokedelaaDoor.XCharJoins Go.Proofs.YtpedfpeokedelaaDoorW.PrintWords Go.Proofs.YtpedfpeokedelaaDoorW.PrintLast
set_option maxRecDepth 100000 in
theorem first_j : calepinlaw01_first.f = some true := by decide +kernel
theorem turn_size (s : ByteArray) (lo hi : UInt8) : (turnS s lo hi).size = s.size := by
  rw [size_eq, size_eq]
  simp [turnS]
theorem turn_append (a b : ByteArray) (lo hi : UInt8) : turnS (a ++ b) lo hi = turnS a lo hi ++ turnS b lo hi := by
  apply ByteArray.ext
  apply Array.toList_inj.1
  simp [turnS]
theorem turn_turn (s : ByteArray) (lo hi lo' hi' : UInt8) (h : ∀ c, turnB lo' hi' (turnB lo hi c) = turnB lo' hi' c) : turnS (turnS s lo hi) lo' hi' = turnS s lo' hi' := by
  apply ByteArray.ext
  apply Array.toList_inj.1
  simp only [turnS, List.map_map]
  exact List.map_congr_left fun c _ => h c
theorem byte_all {p : UInt8 → Bool} (h : ∀ x : Fin 256, p (UInt8.ofNat x.val) = true) (c : UInt8) : p c = true := by
  have := h ⟨c.toNat, c.toNat_lt⟩
  simpa using this
theorem up_low (c : UInt8) : turnB 97 122 (turnB 65 90 c) = turnB 97 122 c := by
  have := byte_all (p := fun c => turnB 97 122 (turnB 65 90 c) == turnB 97 122 c) (by decide +kernel) c
  exact beq_iff_eq.1 this
theorem low_up (c : UInt8) : turnB 65 90 (turnB 97 122 c) = turnB 65 90 c := by
  have := byte_all (p := fun c => turnB 65 90 (turnB 97 122 c) == turnB 65 90 c) (by decide +kernel) c
  exact beq_iff_eq.1 this
theorem low_f (s : ByteArray) (h : s.size ≤ 281474976710656) : char_Lower.f s = some (turnS s 65 90) := by
  unfold char_Lower.f char_turned.f
  rw [if_pos ⟨h, by decide⟩]
  rfl
theorem up_f (s : ByteArray) (h : s.size ≤ 281474976710656) : char_Upper.f s = some (turnS s 97 122) := by
  unfold char_Upper.f char_turned.f
  rw [if_pos ⟨h, by decide⟩]
  rfl
theorem CharJoins : calepinlaw01_CharJoins.Pure := by
  intro a b ha hb
  refine ⟨1, ?_⟩
  have hab : (a ++ b).size = a.size + b.size := ByteArray.size_append
  have hl := low_f a (by omega)
  have hu := up_f a (by omega)
  have hlb := low_f b (by omega)
  have hlab := low_f (a ++ b) (by omega)
  have hlu := low_f (turnS a 97 122) (by rw [turn_size]; omega)
  have hul := up_f (turnS a 65 90) (by rw [turn_size]; omega)
  have hj : calepinlaw01_CharJoins.j0 1 a b false = some true := by
    rw [calepinlaw01_CharJoins.j0, if_neg (by simp), if_pos (by omega), hlab, hl, hlb]
    simp only [Option.bind_some]
    rw [if_pos (by rw [turn_size, turn_size]; omega), if_pos (by rw [turn_append]), hul]
    simp only [Option.bind_some]
    rw [hu]
    simp only [Option.bind_some]
    rw [turn_turn _ _ _ _ _ up_low, if_pos rfl, hlu]
    simp only [Option.bind_some]
    rw [turn_turn _ _ _ _ _ low_up, if_pos rfl, char_Same.f, hl]
    simp only [Option.bind_some]
    rw [hlu]
    simp only [Option.bind_some]
    rw [turn_turn _ _ _ _ _ low_up]
    simp [turn_size]
  unfold calepinlaw01_CharJoins.f
  rw [first_j]
  simp only [Option.bind_some, if_true, char_Valid.f]
  rw [if_pos (show a.size ≤ 281474976710656 by omega)]
  simp only [Option.bind_some]
  by_cases hv : validB a = true
  · rw [if_pos hv, if_pos (by omega), if_pos (show (a ++ b).size ≤ 281474976710656 by omega)]
    simp only [Option.bind_some]
    rw [if_pos (show b.size ≤ 281474976710656 by omega)]
    simp only [Option.bind_some]
    have e : validB (a ++ b) = validB b := by
      rw [validB_eq] at hv
      rw [validB_eq, validB_eq, show (a ++ b).data.toList = a.data.toList ++ b.data.toList by simp]
      exact okL_append _ _ _ (Nat.le_refl _) hv
    rw [e, show (validB b != validB b) = false by simp]
    exact hj
  · rw [if_neg hv]
    exact hj
end Go.Proofs.YtpedfpeokedelaaDoor.Pure
