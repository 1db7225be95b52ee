import Derived.Test.YtipfekjmcddelaaGreatDoorRz
import Derived.Test.YtipfekjmcddelaaGreatDoorProg
import Derived.KernelRfl
namespace Go.Proofs.YtipfekjmcddelaaGreatDoor.Rz
open Go.Proofs.YtipfekjmcddelaaGreatDoorW.zgo Go.RowKit
set_option linter.unusedVariables false
set_option maxRecDepth 100000
section
variable {H : Type} {en : TypeId × Value → H} {w : World} {base : Nat} {spare : Nat → Bool} {held : Bool}
def kI : Kd Int := Kd.int .i64
def kS : Kd ByteArray := Kd.string
def kF : Kd (ByteArray × ByteArray) := Kd.pair kS kS
def kFs : Kd (List (ByteArray × ByteArray)) := Kd.slice 62 kF
def kR : Kd (ByteArray × ByteArray × List (ByteArray × ByteArray) × ByteArray) := Kd.pair kS (Kd.pair kS (Kd.pair kFs kS))
def kY : Kd (Int × List (ByteArray × ByteArray) × ByteArray) := Kd.pair kI (Kd.pair kFs kS)
def okI (n : Int) : Prop := (Lit.int .i64 n).wf = true
def okS (s : ByteArray) : Prop := s.size ≤ 140737488351232
def okF : ByteArray × ByteArray → Prop := And2 okS okS
def okFs (l : List (ByteArray × ByteArray)) : Prop := l.length * 32 ≤ 140737488351232 ∧ ∀ a ∈ l, okF a
def okR : ByteArray × ByteArray × List (ByteArray × ByteArray) × ByteArray → Prop := And2 okS (And2 okS (And2 okFs okS))
def okY : Int × List (ByteArray × ByteArray) × ByteArray → Prop := And2 okI (And2 okFs okS)
theorem cI : Tryz.prog.cellsOf 3 = 1 := by kernel_rfl
theorem cS : Tryz.prog.cellsOf 9 = 1 := by kernel_rfl
theorem cFs : Tryz.prog.cellsOf 23 = 1 := by kernel_rfl
theorem cF : Tryz.prog.cellsOf 62 = 2 := by kernel_rfl
theorem cR : Tryz.prog.cellsOf 25 = 4 := by kernel_rfl
theorem cY : Tryz.prog.cellsOf 33 = 3 := by kernel_rfl
theorem rI : Rdz en Tryz.prog w base spare held kI 3 okI := Rdz.int Tryz.underlying3 cI
theorem rS : Rdz en Tryz.prog w base spare held kS 9 okS := Rdz.string Tryz.underlying9 cS
theorem rF : Rdz en Tryz.prog w base spare held kF 62 okF := Rdz.struct Tryz.underlying62 (by rw [cF]; rfl) (Frz.cons (i := 0) (o := 0) rS 1 (Frz.last (i := 1) (o := 1) rS rfl rfl (by rw [cF]; exact congrArg (1 + ·) cS)) rfl rfl (congrArg (0 + ·) cS))
theorem rFs : Rdz en Tryz.prog w base spare held kFs 23 okFs := Rdz.slice Tryz.underlying23 cFs (by kernel_rfl) rF
theorem rR : Rdz en Tryz.prog w base spare held kR 25 okR := Rdz.struct Tryz.underlying25 (by rw [cR]; rfl) (Frz.cons (i := 0) (o := 0) rS 1 (Frz.cons (i := 1) (o := 1) rS 2 (Frz.cons (i := 2) (o := 2) rFs 3 (Frz.last (i := 3) (o := 3) rS rfl rfl (by rw [cR]; exact congrArg (3 + ·) cS)) rfl rfl (congrArg (2 + ·) cFs)) rfl rfl (congrArg (1 + ·) cS)) rfl rfl (congrArg (0 + ·) cS))
theorem rY : Rdz en Tryz.prog w base spare held kY 33 okY := Rdz.struct Tryz.underlying33 (by rw [cY]; rfl) (Frz.cons (i := 0) (o := 0) rI 1 (Frz.cons (i := 1) (o := 1) rFs 2 (Frz.last (i := 2) (o := 2) rS rfl rfl (by rw [cY]; exact congrArg (2 + ·) cS)) rfl rfl (congrArg (1 + ·) cFs)) rfl rfl (congrArg (0 + ·) cI))
theorem openR {v : ByteArray × ByteArray × List (ByteArray × ByteArray) × ByteArray} {cs : List Value} (h : kR.K w v cs) :
    ∃ A c, cs = [.string v.1, .string v.2.1, .slice A v.2.2.1.length c, .string v.2.2.2] ∧ v.2.2.1.length ≤ c ∧ Kd.C kF w A v.2.2.1.length v.2.2.1 := by
  obtain ⟨_, _, rfl, rfl, _, _, rfl, rfl, _, _, rfl, ⟨A, c, rfl, hl, hC⟩, rfl⟩ := h
  exact ⟨A, c, rfl, hl, hC⟩
theorem openY {v : Int × List (ByteArray × ByteArray) × ByteArray} {cs : List Value} (h : kY.K w v cs) :
    ∃ A c, cs = [.int .i64 v.1, .slice A v.2.1.length c, .string v.2.2] ∧ v.2.1.length ≤ c ∧ Kd.C kF w A v.2.1.length v.2.1 := by
  obtain ⟨_, _, rfl, rfl, _, _, rfl, ⟨A, c, rfl, hl, hC⟩, rfl⟩ := h
  exact ⟨A, c, rfl, hl, hC⟩
end
end Go.Proofs.YtipfekjmcddelaaGreatDoor.Rz
