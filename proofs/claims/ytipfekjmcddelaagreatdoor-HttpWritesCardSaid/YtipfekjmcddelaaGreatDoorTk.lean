/- strings.Cut at a separator of one byte, strings.CutPrefix: without a bound on the text. -/
import Derived.Test.YtipfekjmcddelaaGreatDoorTu
namespace Go.Proofs.YtipfekjmcddelaaGreatDoor
open Go.RowKit Go.Shelf Go.Lib Go.Joins Go.Sort Go.Proofs.YtipfekjmcddelaaGreatDoorW.zgo
set_option linter.unusedVariables false
set_option linter.unusedSimpArgs false
set_option maxHeartbeats 2000000 in
set_option maxRecDepth 100000 in
theorem cutlite_one (s : ByteArray) (c : UInt8) (w : World) (hs : s.size ≤ 281474976710656) :
    Calls Tryz.prog 67 #[.string s, .string ⟨#[c]⟩] w fun e w' => e = .returned (.tuple #[.string ⟨(Lib.cut s.data.toList [c]).1.toArray⟩, .string ⟨(Lib.cut s.data.toList [c]).2.1.toArray⟩, .bool (Lib.cut s.data.toList [c]).2.2]) ∧ Below w.heap.size w w' := by
  have hI := fun W => Any.stringslite_Index_one (ρ := Tryz.lays145_ren) { Tryz.lays145 with } s c W
  change ∀ W, Calls Tryz.prog 45 _ _ _ at hI
  have hone : Lib.index s.data.toList [c] = Lib.indexByte s.data.toList c := Lib.index_one s.data.toList c
  have hsz : (⟨#[c]⟩ : ByteArray).size = 1 := rfl
  have mixed := Tryz.lays145.mixed
  rcases Lib.indexB_cases s ⟨#[c]⟩ with hix | ⟨i, hix, hroom⟩
  · obtain ⟨e1, e2, e3⟩ := Lib.cutB_miss s ⟨#[c]⟩ hix
    change (⟨(Lib.cut s.data.toList [c]).1.toArray⟩ : ByteArray) = _ at e1
    change (⟨(Lib.cut s.data.toList [c]).2.1.toArray⟩ : ByteArray) = _ at e2
    change (Lib.cut s.data.toList [c]).2.2 = _ at e3
    change Lib.index s.data.toList [c] = _ at hix
    rw [e1, e2, e3]
    rw [← hone, hix] at hI
    go_enter Tryz.func67, Tryz.ntmps67
    go_wp2_with (go_at_call 45; refine (hI _).mono ?_; rintro e w' ⟨rfl, rfl⟩)
    go_ret3
    exact ⟨rfl, Below.refl _ _⟩
  · obtain ⟨e1, e2, e3⟩ := Lib.cutB_hit s ⟨#[c]⟩ i hix
    change (⟨(Lib.cut s.data.toList [c]).1.toArray⟩ : ByteArray) = _ at e1
    change (⟨(Lib.cut s.data.toList [c]).2.1.toArray⟩ : ByteArray) = _ at e2
    change (Lib.cut s.data.toList [c]).2.2 = _ at e3
    change Lib.index s.data.toList [c] = _ at hix
    rw [hsz] at hroom
    rw [e1, e2, e3]
    have c1 : (0 : Int) ≤ ↑i := by omega
    have c2 : (↑i : Int) ≤ ↑s.size := by omega
    have c3 : (0 : Int) ≤ ↑i + ↑(⟨#[c]⟩ : ByteArray).size := by omega
    have c4 : (↑i + ↑(⟨#[c]⟩ : ByteArray).size : Int) ≤ ↑s.size := by omega
    rw [← hone, hix] at hI
    go_enter Tryz.func67, Tryz.ntmps67
    go_wp2_with (go_at_call 45; refine (hI _).mono ?_; rintro e w' ⟨rfl, rfl⟩)
    go_region_o
    go_wp2
    go_ret3
    exact ⟨rfl, zaa (Below.refl _ _) 1⟩
set_option maxHeartbeats 1000000 in
theorem cut_one (s : ByteArray) (c : UInt8) (w : World) (hs : s.size ≤ 281474976710656) :
    Calls Tryz.prog 46 #[.string s, .string ⟨#[c]⟩] w fun e w' => e = .returned (.tuple #[.string ⟨(Lib.cut s.data.toList [c]).1.toArray⟩, .string ⟨(Lib.cut s.data.toList [c]).2.1.toArray⟩, .bool (Lib.cut s.data.toList [c]).2.2]) ∧ Below w.heap.size w w' := by
  go_enter Tryz.func46, Tryz.ntmps46
  go_wp2_with (go_at_call 67; refine (cutlite_one s c _ hs).mono ?_; rintro e w' ⟨rfl, hb⟩)
  go_ret3
  exact ⟨rfl, hb⟩
end Go.Proofs.YtipfekjmcddelaaGreatDoor
