import Derived.Test.YtpedfpeokedelaaDoorRg
import Derived.Test.YtpedfpeokedelaaDoorProg
import Derived.KernelRfl
/- How the arguments of this seat read. Printed by gen_rd.py. -/
namespace Go.Proofs.YtpedfpeokedelaaDoor.Rg
open Go.Proofs.YtpedfpeokedelaaDoorW.PrintWords Go.RowKit
set_option linter.unusedVariables false
set_option maxRecDepth 100000
section
variable {H : Type} {en : TypeId × Value → H} {w : World} {base : Nat} {spare : Nat → Bool} {held : Bool}
abbrev α3 := Int
def k3 : Kd α3 := (Kd.int .i64)
def ok3 : α3 → Prop := (IntOk .i64)
def sz3 : α3 → Nat := (fun _ => 1)
theorem cells3 : Tryd.prog.cellsOf 3 = 1 := by kernel_rfl
theorem rd3 : Rdg en Tryd.prog w base spare held k3 3 ok3 sz3 := Rdg.int Tryd.underlying3 cells3
abbrev α9 := ByteArray
def k9 : Kd α9 := Kd.string
def ok9 : α9 → Prop := (fun _ => True)
def sz9 : α9 → Nat := (fun s => s.size + 1)
theorem cells9 : Tryd.prog.cellsOf 9 = 1 := by kernel_rfl
theorem rd9 : Rdg en Tryd.prog w base spare held k9 9 ok9 sz9 := Rdg.string Tryd.underlying9 cells9
abbrev α35 := (α3 × α3)
def k35 : Kd α35 := (Kd.pair k3 k3)
def ok35 : α35 → Prop := (And2 ok3 ok3)
def sz35 : α35 → Nat := (fun v => (Sum2 sz3 sz3) v + 1)
theorem cells35 : Tryd.prog.cellsOf 35 = 2 := by kernel_rfl
theorem rd35 : Rdg en Tryd.prog w base spare held k35 35 ok35 sz35 := Rdg.struct Tryd.underlying35 (by rw [cells35]; rfl) (Fr.cons (i := 0) (o := 0) rd3 1 (Fr.last (i := 1) (o := 1) rd3 rfl rfl (by rw [cells35]; exact congrArg (1 + ·) cells3)) rfl rfl (congrArg (0 + ·) cells3))
theorem open35 {w : World} {v : α35} {cs : List Value} (h : k35.K w v cs) : cs = [.int .i64 v.1, .int .i64 v.2] := by
  obtain ⟨_, _, rfl, rfl, rfl⟩ := h
  exact rfl
end
end Go.Proofs.YtpedfpeokedelaaDoor.Rg
