/-
  DERIVED: THE SHELF's CONTRACTS AT THIS DUMP, IN PLAIN WORDS (tools/lay-plain.mjs out of 'YtpaopeiegaijiaaGreatDoorSz.lean', which tools/lay-shelf.mjs wrote): THE SAME DECLARATIONS UNDER THE SAME NAMES: 'import', 'namespace', 'open', 'def', 'theorem' AND NOTHING ELSE: no command of the shelf's: FOR A HAND-IN. Each laying: the table of numbers ('.._ren') and one theorem, a field a fact of the dump's own or the kernel's comparison; each contract: ONE APPLICATION.
-/
import Derived.Shelf.LaysM
import Derived.Ground.NamesProg
import Derived.Test.YtpaopeiegaijiaaGreatDoorProg
namespace Go.Proofs
open Go.Shelf
def Tryz.laysMCut_ren : Go.Shelf.Ren := ⟨fun | 145 => 101 | 220 => 135 | 219 => 156 | 217 => 169 | 225 => 170 | 224 => 171 | 267 => 172 | 266 => 190 | 314 => 191 | n => n, fun | 9 => 9 | 4 => 4 | 59 => 160 | 3 => 3 | 5 => 5 | 46 => 62 | 146 => 246 | 51 => 142 | n => n, fun | 1 => 2 | n => n⟩
theorem Tryz.laysMCut : Go.Proofs.LaysM.n145 Tryz.prog Tryz.laysMCut_ren := {
  mixed := by kernel_rfl
  f145 := Tryz.func101.trans (congrArg some (by kernel_rfl))
  f217 := Tryz.func169.trans (congrArg some (by kernel_rfl))
  f219 := Tryz.func156.trans (congrArg some (by kernel_rfl))
  f220 := Tryz.func135.trans (congrArg some (by kernel_rfl))
  f224 := Tryz.func171.trans (congrArg some (by kernel_rfl))
  f225 := Tryz.func170.trans (congrArg some (by kernel_rfl))
  f266 := Tryz.func190.trans (congrArg some (by kernel_rfl))
  f267 := Tryz.func172.trans (congrArg some (by kernel_rfl))
  f314 := Tryz.func191.trans (congrArg some (by kernel_rfl))
  t3 := Tryz.underlying3
  a3 := Tryz.isAgg3
  z3 := Tryz.sizeOf3
  v3 := Tryz.zeroValue3
  t4 := Tryz.underlying4
  a4 := Tryz.isAgg4
  z4 := Tryz.sizeOf4
  v4 := Tryz.zeroValue4
  t5 := Tryz.underlying5
  a5 := Tryz.isAgg5
  z5 := Tryz.sizeOf5
  v5 := Tryz.zeroValue5
  t9 := Tryz.underlying9
  a9 := Tryz.isAgg9
  z9 := Tryz.sizeOf9
  v9 := Tryz.zeroValue9
  t46 := Tryz.underlying62
  a46 := Tryz.isAgg62
  z46 := Tryz.sizeOf62
  v46 := Tryz.zeroValue62
  t51 := Tryz.underlying142
  a51 := Tryz.isAgg142
  z51 := Tryz.sizeOf142
  v51 := Tryz.zeroValue142
  t59 := Tryz.underlying160
  a59 := Tryz.isAgg160
  z59 := Tryz.sizeOf160
  v59 := Tryz.zeroValue160
  t146 := Tryz.underlying246
  a146 := Tryz.isAgg246
  z146 := Tryz.sizeOf246
  v146 := Tryz.zeroValue246
  g1 := by kernel_rfl
  i3 := by kernel_rfl
  i4 := by kernel_rfl
  i5 := by kernel_rfl
  i9 := by kernel_rfl
  i46 := by kernel_rfl
  i51 := by kernel_rfl
  i59 := by kernel_rfl
  i146 := by kernel_rfl
  m1 := by kernel_rfl
  s1_3 := fun w h => Go.Proofs.cell_of_shapedOpen_int (zero := #[.int .i64 0]) (t := 3) h (of_decide_eq_true (by kernel_rfl)) (by kernel_rfl) rfl (by kernel_rfl) (by kernel_rfl) Tryz.underlying3 }
end Go.Proofs
