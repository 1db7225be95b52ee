import Derived.Test.YtjhcbggpbfejgaaRg
import Derived.Test.YtjhcbggpbfejgaaProg
import Derived.KernelRfl
/- How the arguments of this seat read. Printed by gen_rd.py. -/
namespace Go.Proofs.Ytjhcbggpbfejgaa.Rg
open Go.Proofs.YtjhcbggpbfejgaaW.PrintWords Go.RowKit
set_option linter.unusedVariables false
set_option maxRecDepth 100000
section
variable {H : Type} {en : TypeId × Value → H} {w : World} {base : Nat} {spare : Nat → Bool} {held : Bool}
abbrev α22 := Int
def k22 : Kd α22 := (Kd.int .i64)
def ok22 : α22 → Prop := (IntOk .i64)
def sz22 : α22 → Nat := (fun _ => 1)
theorem cells22 : Try.prog.cellsOf 22 = 1 := by kernel_rfl
theorem rd22 : Rdg en Try.prog w base spare held k22 22 ok22 sz22 := Rdg.int Try.underlying22 cells22
abbrev α3 := Int
def k3 : Kd α3 := (Kd.int .i64)
def ok3 : α3 → Prop := (IntOk .i64)
def sz3 : α3 → Nat := (fun _ => 1)
theorem cells3 : Try.prog.cellsOf 3 = 1 := by kernel_rfl
theorem rd3 : Rdg en Try.prog w base spare held k3 3 ok3 sz3 := Rdg.int Try.underlying3 cells3
abbrev α35 := Int
def k35 : Kd α35 := (Kd.int .i64)
def ok35 : α35 → Prop := (IntOk .i64)
def sz35 : α35 → Nat := (fun _ => 1)
theorem cells35 : Try.prog.cellsOf 35 = 1 := by kernel_rfl
theorem rd35 : Rdg en Try.prog w base spare held k35 35 ok35 sz35 := Rdg.int Try.underlying35 cells35
abbrev α9 := ByteArray
def k9 : Kd α9 := Kd.string
def ok9 : α9 → Prop := (fun _ => True)
def sz9 : α9 → Nat := (fun s => s.size + 1)
theorem cells9 : Try.prog.cellsOf 9 = 1 := by kernel_rfl
theorem rd9 : Rdg en Try.prog w base spare held k9 9 ok9 sz9 := Rdg.string Try.underlying9 cells9
abbrev α4 := Bool
def k4 : Kd α4 := Kd.bool
def ok4 : α4 → Prop := (fun _ => True)
def sz4 : α4 → Nat := (fun _ => 1)
theorem cells4 : Try.prog.cellsOf 4 = 1 := by kernel_rfl
theorem rd4 : Rdg en Try.prog w base spare held k4 4 ok4 sz4 := Rdg.bool Try.underlying4 cells4
abbrev α23 := (List α9)
def k23 : Kd α23 := (Kd.slice 9 k9)
def ok23 : α23 → Prop := (fun l => ∀ a ∈ l, ok9 a)
def sz23 : α23 → Nat := (fun l => tot sz9 l + 1)
theorem cells23 : Try.prog.cellsOf 23 = 1 := by kernel_rfl
theorem rd23 : Rdg en Try.prog w base spare held k23 23 ok23 sz23 := Rdg.slice Try.underlying23 cells23 rd9
abbrev α36 := (List α3)
def k36 : Kd α36 := (Kd.slice 3 k3)
def ok36 : α36 → Prop := (fun l => ∀ a ∈ l, ok3 a)
def sz36 : α36 → Nat := (fun l => tot sz3 l + 1)
theorem cells36 : Try.prog.cellsOf 36 = 1 := by kernel_rfl
theorem rd36 : Rdg en Try.prog w base spare held k36 36 ok36 sz36 := Rdg.slice Try.underlying36 cells36 rd3
abbrev α25 := (α22 × α9 × α9 × α9 × α9 × α9 × α9 × α23 × α3 × α3 × α3)
def k25 : Kd α25 := (Kd.pair k22 (Kd.pair k9 (Kd.pair k9 (Kd.pair k9 (Kd.pair k9 (Kd.pair k9 (Kd.pair k9 (Kd.pair k23 (Kd.pair k3 (Kd.pair k3 k3))))))))))
def ok25 : α25 → Prop := (And2 ok22 (And2 ok9 (And2 ok9 (And2 ok9 (And2 ok9 (And2 ok9 (And2 ok9 (And2 ok23 (And2 ok3 (And2 ok3 ok3))))))))))
def sz25 : α25 → Nat := (fun v => (Sum2 sz22 (Sum2 sz9 (Sum2 sz9 (Sum2 sz9 (Sum2 sz9 (Sum2 sz9 (Sum2 sz9 (Sum2 sz23 (Sum2 sz3 (Sum2 sz3 sz3)))))))))) v + 1)
theorem cells25 : Try.prog.cellsOf 25 = 11 := by kernel_rfl
theorem rd25 : Rdg en Try.prog w base spare held k25 25 ok25 sz25 := Rdg.struct Try.underlying25 (by rw [cells25]; rfl) (Fr.cons (i := 0) (o := 0) rd22 1 (Fr.cons (i := 1) (o := 1) rd9 2 (Fr.cons (i := 2) (o := 2) rd9 3 (Fr.cons (i := 3) (o := 3) rd9 4 (Fr.cons (i := 4) (o := 4) rd9 5 (Fr.cons (i := 5) (o := 5) rd9 6 (Fr.cons (i := 6) (o := 6) rd9 7 (Fr.cons (i := 7) (o := 7) rd23 8 (Fr.cons (i := 8) (o := 8) rd3 9 (Fr.cons (i := 9) (o := 9) rd3 10 (Fr.last (i := 10) (o := 10) rd3 rfl rfl (by rw [cells25]; exact congrArg (10 + ·) cells3)) rfl rfl (congrArg (9 + ·) cells3)) rfl rfl (congrArg (8 + ·) cells3)) rfl rfl (congrArg (7 + ·) cells23)) rfl rfl (congrArg (6 + ·) cells9)) rfl rfl (congrArg (5 + ·) cells9)) rfl rfl (congrArg (4 + ·) cells9)) rfl rfl (congrArg (3 + ·) cells9)) rfl rfl (congrArg (2 + ·) cells9)) rfl rfl (congrArg (1 + ·) cells9)) rfl rfl (congrArg (0 + ·) cells22))
abbrev α38 := (α3 × α35 × α25 × α36)
def k38 : Kd α38 := (Kd.pair k3 (Kd.pair k35 (Kd.pair k25 k36)))
def ok38 : α38 → Prop := (And2 ok3 (And2 ok35 (And2 ok25 ok36)))
def sz38 : α38 → Nat := (fun v => (Sum2 sz3 (Sum2 sz35 (Sum2 sz25 sz36))) v + 1)
theorem cells38 : Try.prog.cellsOf 38 = 14 := by kernel_rfl
theorem rd38 : Rdg en Try.prog w base spare held k38 38 ok38 sz38 := Rdg.struct Try.underlying38 (by rw [cells38]; rfl) (Fr.cons (i := 0) (o := 0) rd3 1 (Fr.cons (i := 1) (o := 1) rd35 2 (Fr.cons (i := 2) (o := 2) rd25 13 (Fr.last (i := 3) (o := 13) rd36 rfl rfl (by rw [cells38]; exact congrArg (13 + ·) cells36)) rfl rfl (congrArg (2 + ·) cells25)) rfl rfl (congrArg (1 + ·) cells35)) rfl rfl (congrArg (0 + ·) cells3))
abbrev α93 := (α9 × α3 × α9 × α4)
def k93 : Kd α93 := (Kd.pair k9 (Kd.pair k3 (Kd.pair k9 k4)))
def ok93 : α93 → Prop := (And2 ok9 (And2 ok3 (And2 ok9 ok4)))
def sz93 : α93 → Nat := (fun v => (Sum2 sz9 (Sum2 sz3 (Sum2 sz9 sz4))) v + 1)
theorem cells93 : Try.prog.cellsOf 93 = 4 := by kernel_rfl
theorem rd93 : Rdg en Try.prog w base spare held k93 93 ok93 sz93 := Rdg.struct Try.underlying93 (by rw [cells93]; rfl) (Fr.cons (i := 0) (o := 0) rd9 1 (Fr.cons (i := 1) (o := 1) rd3 2 (Fr.cons (i := 2) (o := 2) rd9 3 (Fr.last (i := 3) (o := 3) rd4 rfl rfl (by rw [cells93]; exact congrArg (3 + ·) cells4)) rfl rfl (congrArg (2 + ·) cells9)) rfl rfl (congrArg (1 + ·) cells3)) rfl rfl (congrArg (0 + ·) cells9))
abbrev α43 := (List α93)
def k43 : Kd α43 := (Kd.slice 93 k93)
def ok43 : α43 → Prop := (fun l => ∀ a ∈ l, ok93 a)
def sz43 : α43 → Nat := (fun l => tot sz93 l + 1)
theorem cells43 : Try.prog.cellsOf 43 = 1 := by kernel_rfl
theorem rd43 : Rdg en Try.prog w base spare held k43 43 ok43 sz43 := Rdg.slice Try.underlying43 cells43 rd93
abbrev α45 := (α3 × α3 × α9 × α43 × α9)
def k45 : Kd α45 := (Kd.pair k3 (Kd.pair k3 (Kd.pair k9 (Kd.pair k43 k9))))
def ok45 : α45 → Prop := (And2 ok3 (And2 ok3 (And2 ok9 (And2 ok43 ok9))))
def sz45 : α45 → Nat := (fun v => (Sum2 sz3 (Sum2 sz3 (Sum2 sz9 (Sum2 sz43 sz9)))) v + 1)
theorem cells45 : Try.prog.cellsOf 45 = 5 := by kernel_rfl
theorem rd45 : Rdg en Try.prog w base spare held k45 45 ok45 sz45 := Rdg.struct Try.underlying45 (by rw [cells45]; rfl) (Fr.cons (i := 0) (o := 0) rd3 1 (Fr.cons (i := 1) (o := 1) rd3 2 (Fr.cons (i := 2) (o := 2) rd9 3 (Fr.cons (i := 3) (o := 3) rd43 4 (Fr.last (i := 4) (o := 4) rd9 rfl rfl (by rw [cells45]; exact congrArg (4 + ·) cells9)) rfl rfl (congrArg (3 + ·) cells43)) rfl rfl (congrArg (2 + ·) cells9)) rfl rfl (congrArg (1 + ·) cells3)) rfl rfl (congrArg (0 + ·) cells3))
theorem open25 {w : World} {v : α25} {cs : List Value} (h : k25.K w v cs) : ∃ (A0 : Option Addr) (c0 : Nat), cs = [.int .i64 v.1, .string v.2.1, .string v.2.2.1, .string v.2.2.2.1, .string v.2.2.2.2.1, .string v.2.2.2.2.2.1, .string v.2.2.2.2.2.2.1, .slice A0 (v.2.2.2.2.2.2.2.1).length c0, .int .i64 v.2.2.2.2.2.2.2.2.1, .int .i64 v.2.2.2.2.2.2.2.2.2.1, .int .i64 v.2.2.2.2.2.2.2.2.2.2] ∧ (v.2.2.2.2.2.2.2.1).length ≤ c0 ∧ Kd.C k9 w A0 (v.2.2.2.2.2.2.2.1).length (v.2.2.2.2.2.2.2.1) := by
  obtain ⟨_, _, rfl, rfl, ⟨_, _, rfl, rfl, ⟨_, _, rfl, rfl, ⟨_, _, rfl, rfl, ⟨_, _, rfl, rfl, ⟨_, _, rfl, rfl, ⟨_, _, rfl, rfl, ⟨_, _, rfl, ⟨A0, c0, rfl, hl0, hC0⟩, ⟨_, _, rfl, rfl, ⟨_, _, rfl, rfl, rfl⟩⟩⟩⟩⟩⟩⟩⟩⟩⟩ := h
  exact ⟨A0, c0, rfl, hl0, hC0⟩
theorem open38 {w : World} {v : α38} {cs : List Value} (h : k38.K w v cs) : ∃ (A0 : Option Addr) (c0 : Nat) (A1 : Option Addr) (c1 : Nat), cs = [.int .i64 v.1, .int .i64 v.2.1, .int .i64 v.2.2.1.1, .string v.2.2.1.2.1, .string v.2.2.1.2.2.1, .string v.2.2.1.2.2.2.1, .string v.2.2.1.2.2.2.2.1, .string v.2.2.1.2.2.2.2.2.1, .string v.2.2.1.2.2.2.2.2.2.1, .slice A0 (v.2.2.1.2.2.2.2.2.2.2.1).length c0, .int .i64 v.2.2.1.2.2.2.2.2.2.2.2.1, .int .i64 v.2.2.1.2.2.2.2.2.2.2.2.2.1, .int .i64 v.2.2.1.2.2.2.2.2.2.2.2.2.2, .slice A1 (v.2.2.2).length c1] ∧ (v.2.2.1.2.2.2.2.2.2.2.1).length ≤ c0 ∧ Kd.C k9 w A0 (v.2.2.1.2.2.2.2.2.2.2.1).length (v.2.2.1.2.2.2.2.2.2.2.1) ∧ (v.2.2.2).length ≤ c1 ∧ Kd.C k3 w A1 (v.2.2.2).length (v.2.2.2) := by
  obtain ⟨_, _, rfl, rfl, ⟨_, _, rfl, rfl, ⟨_, _, rfl, ⟨_, _, rfl, rfl, ⟨_, _, rfl, rfl, ⟨_, _, rfl, rfl, ⟨_, _, rfl, rfl, ⟨_, _, rfl, rfl, ⟨_, _, rfl, rfl, ⟨_, _, rfl, rfl, ⟨_, _, rfl, ⟨A0, c0, rfl, hl0, hC0⟩, ⟨_, _, rfl, rfl, ⟨_, _, rfl, rfl, rfl⟩⟩⟩⟩⟩⟩⟩⟩⟩⟩, ⟨A1, c1, rfl, hl1, hC1⟩⟩⟩⟩ := h
  exact ⟨A0, c0, A1, c1, rfl, hl0, hC0, hl1, hC1⟩
theorem open93 {w : World} {v : α93} {cs : List Value} (h : k93.K w v cs) : cs = [.string v.1, .int .i64 v.2.1, .string v.2.2.1, .bool v.2.2.2] := by
  obtain ⟨_, _, rfl, rfl, ⟨_, _, rfl, rfl, ⟨_, _, rfl, rfl, rfl⟩⟩⟩ := h
  exact rfl
theorem open45 {w : World} {v : α45} {cs : List Value} (h : k45.K w v cs) : ∃ (A0 : Option Addr) (c0 : Nat), cs = [.int .i64 v.1, .int .i64 v.2.1, .string v.2.2.1, .slice A0 (v.2.2.2.1).length c0, .string v.2.2.2.2] ∧ (v.2.2.2.1).length ≤ c0 ∧ Kd.C k93 w A0 (v.2.2.2.1).length (v.2.2.2.1) := by
  obtain ⟨_, _, rfl, rfl, ⟨_, _, rfl, rfl, ⟨_, _, rfl, rfl, ⟨_, _, rfl, ⟨A0, c0, rfl, hl0, hC0⟩, rfl⟩⟩⟩⟩ := h
  exact ⟨A0, c0, rfl, hl0, hC0⟩
end
end Go.Proofs.Ytjhcbggpbfejgaa.Rg
