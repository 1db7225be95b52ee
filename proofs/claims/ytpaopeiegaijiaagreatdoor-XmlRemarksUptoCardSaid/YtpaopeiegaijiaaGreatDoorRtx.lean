import Derived.Test.YtpaopeiegaijiaaGreatDoorRg
import Derived.Test.YtpaopeiegaijiaaGreatDoorProg
import Derived.KernelRfl
/- How the arguments of the xml laws read. Printed by gen_rd.py. -/
namespace Go.Proofs.YtpaopeiegaijiaaGreatDoor.Rg
open Go.Proofs.YtpaopeiegaijiaaGreatDoorW.PrintWords Go.RowKit
set_option linter.unusedVariables false
set_option maxRecDepth 100000
section
variable {H : Type} {en : TypeId × Value → H} {w : World} {base : Nat} {spare : Nat → Bool} {held : Bool}
abbrev α22 := Int
def k22 : Kd α22 := (Kd.int .i64)
def ok22 : α22 → Prop := (IntOk .i64)
def sz22 : α22 → Nat := (fun _ => 1)
theorem cells22 : Tryz.prog.cellsOf 22 = 1 := by kernel_rfl
theorem rd22 : Rdg en Tryz.prog w base spare held k22 22 ok22 sz22 := Rdg.int Tryz.underlying22 cells22
abbrev α58 := Int
def k58 : Kd α58 := (Kd.int .i64)
def ok58 : α58 → Prop := (IntOk .i64)
def sz58 : α58 → Nat := (fun _ => 1)
theorem cells58 : Tryz.prog.cellsOf 58 = 1 := by kernel_rfl
theorem rd58 : Rdg en Tryz.prog w base spare held k58 58 ok58 sz58 := Rdg.int Tryz.underlying58 cells58
abbrev α9 := ByteArray
def k9 : Kd α9 := Kd.string
def ok9 : α9 → Prop := (fun _ => True)
def sz9 : α9 → Nat := (fun s => s.size + 1)
theorem cells9 : Tryz.prog.cellsOf 9 = 1 := by kernel_rfl
theorem rd9 : Rdg en Tryz.prog w base spare held k9 9 ok9 sz9 := Rdg.string Tryz.underlying9 cells9
abbrev α60 := (α58 × α22 × α9 × α9)
def k60 : Kd α60 := (Kd.pair k58 (Kd.pair k22 (Kd.pair k9 k9)))
def ok60 : α60 → Prop := (And2 ok58 (And2 ok22 (And2 ok9 ok9)))
def sz60 : α60 → Nat := (fun v => (Sum2 sz58 (Sum2 sz22 (Sum2 sz9 sz9))) v + 1)
theorem cells60 : Tryz.prog.cellsOf 60 = 4 := by kernel_rfl
theorem rd60 : Rdg en Tryz.prog w base spare held k60 60 ok60 sz60 := Rdg.struct Tryz.underlying60 (by rw [cells60]; rfl) (Fr.cons (i := 0) (o := 0) rd58 1 (Fr.cons (i := 1) (o := 1) rd22 2 (Fr.cons (i := 2) (o := 2) rd9 3 (Fr.last (i := 3) (o := 3) rd9 rfl rfl (by rw [cells60]; exact congrArg (3 + ·) cells9)) rfl rfl (congrArg (2 + ·) cells9)) rfl rfl (congrArg (1 + ·) cells22)) rfl rfl (congrArg (0 + ·) cells58))
abbrev α48 := (List α60)
def k48 : Kd α48 := (Kd.slice 60 k60)
def ok48 : α48 → Prop := (fun l => ∀ a ∈ l, ok60 a)
def sz48 : α48 → Nat := (fun l => tot sz60 l + 1)
theorem cells48 : Tryz.prog.cellsOf 48 = 1 := by kernel_rfl
theorem rd48 : Rdg en Tryz.prog w base spare held k48 48 ok48 sz48 := Rdg.slice Tryz.underlying48 cells48 rd60
end
end Go.Proofs.YtpaopeiegaijiaaGreatDoor.Rg
