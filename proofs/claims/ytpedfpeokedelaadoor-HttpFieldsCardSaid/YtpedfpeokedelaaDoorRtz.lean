import Derived.Test.YtpedfpeokedelaaDoorRz
import Derived.Test.YtpedfpeokedelaaDoorProg
import Derived.KernelRfl
/- How Http's arguments read. -/
namespace Go.Proofs.YtpedfpeokedelaaDoor.Rz
open Go.Proofs.YtpedfpeokedelaaDoorW.PrintWords Go.RowKit
set_option linter.unusedVariables false
set_option maxRecDepth 100000
section
variable {H : Type} {en : TypeId × Value → H} {w : World} {base : Nat} {spare : Nat → Bool} {held : Bool}
def k3 : Kd Int := Kd.int .i64
def k5 : Kd Int := Kd.int .u8
def k9 : Kd ByteArray := Kd.string
def k74 : Kd (ByteArray × ByteArray) := Kd.pair k9 k9
def k63 : Kd (List (ByteArray × ByteArray)) := Kd.slice 74 k74
def k68 : Kd (List Int) := Kd.slice 5 k5
def k65 : Kd (ByteArray × ByteArray × List (ByteArray × ByteArray) × ByteArray) := Kd.pair k9 (Kd.pair k9 (Kd.pair k63 k9))
def okS (s : ByteArray) : Prop := s.size ≤ 140737488351232
def okB (n : Int) : Prop := (Lit.int .u8 n).wf = true
def okF : ByteArray × ByteArray → Prop := And2 okS okS
def okFs (l : List (ByteArray × ByteArray)) : Prop := l.length * 32 ≤ 140737488351232 ∧ ∀ a ∈ l, okF a
def okBs (l : List Int) : Prop := l.length * 1 ≤ 140737488351232 ∧ ∀ a ∈ l, okB a
def okR : ByteArray × ByteArray × List (ByteArray × ByteArray) × ByteArray → Prop := And2 okS (And2 okS (And2 okFs okS))
theorem cells5 : Tryd.prog.cellsOf 5 = 1 := by kernel_rfl
theorem cells9 : Tryd.prog.cellsOf 9 = 1 := by kernel_rfl
theorem cells63 : Tryd.prog.cellsOf 63 = 1 := by kernel_rfl
theorem cells68 : Tryd.prog.cellsOf 68 = 1 := by kernel_rfl
theorem cells74 : Tryd.prog.cellsOf 74 = 2 := by kernel_rfl
theorem cells65 : Tryd.prog.cellsOf 65 = 4 := by kernel_rfl
theorem rd5 : Rdz en Tryd.prog w base spare held k5 5 okB := Rdz.int Tryd.underlying5 cells5
theorem rd9 : Rdz en Tryd.prog w base spare held k9 9 okS := Rdz.string Tryd.underlying9 cells9
theorem rd74 : Rdz en Tryd.prog w base spare held k74 74 okF := Rdz.struct Tryd.underlying74 (by rw [cells74]; rfl) (Frz.cons (i := 0) (o := 0) rd9 1 (Frz.last (i := 1) (o := 1) rd9 rfl rfl (by rw [cells74]; exact congrArg (1 + ·) cells9)) rfl rfl (congrArg (0 + ·) cells9))
theorem rd63 : Rdz en Tryd.prog w base spare held k63 63 okFs := Rdz.slice Tryd.underlying63 cells63 (by kernel_rfl) rd74
theorem rd68 : Rdz en Tryd.prog w base spare held k68 68 okBs := Rdz.slice Tryd.underlying68 cells68 (by kernel_rfl) rd5
theorem rd65 : Rdz en Tryd.prog w base spare held k65 65 okR := Rdz.struct Tryd.underlying65 (by rw [cells65]; rfl) (Frz.cons (i := 0) (o := 0) rd9 1 (Frz.cons (i := 1) (o := 1) rd9 2 (Frz.cons (i := 2) (o := 2) rd63 3 (Frz.last (i := 3) (o := 3) rd9 rfl rfl (by rw [cells65]; exact congrArg (3 + ·) cells9)) rfl rfl (congrArg (2 + ·) cells63)) rfl rfl (congrArg (1 + ·) cells9)) rfl rfl (congrArg (0 + ·) cells9))
theorem open65 {v : ByteArray × ByteArray × List (ByteArray × ByteArray) × ByteArray} {cs : List Value} (h : k65.K w v cs) :
    ∃ A c, cs = [.string v.1, .string v.2.1, .slice A v.2.2.1.length c, .string v.2.2.2] ∧ v.2.2.1.length ≤ c ∧ Kd.C k74 w A v.2.2.1.length v.2.2.1 := by
  obtain ⟨_, _, rfl, rfl, _, _, rfl, rfl, _, _, rfl, ⟨A, c, rfl, hl, hC⟩, rfl⟩ := h
  exact ⟨A, c, rfl, hl, hC⟩
end
end Go.Proofs.YtpedfpeokedelaaDoor.Rz
