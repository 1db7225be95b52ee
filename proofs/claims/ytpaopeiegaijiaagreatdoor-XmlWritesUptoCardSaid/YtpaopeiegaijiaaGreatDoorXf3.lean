import Derived.Test.YtpaopeiegaijiaaGreatDoorXe
namespace Go.Proofs.YtpaopeiegaijiaaGreatDoor
open Go.RowKit Go.Shelf Go.Lib Go.Joins Go.Proofs.YtpaopeiegaijiaaGreatDoorW.zgv
set_option linter.unusedVariables false
set_option linter.unusedSimpArgs false
set_option maxRecDepth 100000 in
set_option maxHeartbeats 4000000 in
theorem pu13 (w : World) : Calls Tryz.prog 158 #[.string ⟨#[49, 51]⟩, .int .i64 10, .int .i64 32] w fun e w' => e = .returned (.tuple #[.int .u64 13, .nilIface]) ∧ Below w.heap.size w w' := by
  go_enter Tryz.func158, Tryz.ntmps158
  have hconv : ∀ W, (convert 9 93 (.string ⟨#[49, 51]⟩)).run Tryz.prog W = .ok (.slice (some ⟨W.heap.size, 0, none⟩) 2 (grownCap W 2 0 5)) (bytesWorld W 5 ⟨#[49, 51]⟩) := fun W => Lib.run_convert_string_bytes W 9 93 5 (⟨#[49, 51]⟩ : ByteArray) Tryz.underlying9 Tryz.underlying93 Tryz.underlying5
  have b0 : ∀ W, (bytesWorld W 5 ⟨#[49, 51]⟩).cell? ⟨W.heap.size, 0, none⟩ = some (.int .u8 49) := fun W => bytesWorld_cell W _ ⟨#[49, 51]⟩ 0 (by decide)
  have b1 : ∀ W, (bytesWorld W 5 ⟨#[49, 51]⟩).cell? ⟨W.heap.size, 1, none⟩ = some (.int .u8 51) := fun W => bytesWorld_cell W _ ⟨#[49, 51]⟩ 1 (by decide)
  go_wp2
  refine wp_loop_rounds 3 ?_
  rw [rounds_succ]
  go_wp2
  rw [rounds_succ]
  go_wp2
  rw [rounds_succ]
  go_wp2
  go_ret2
  exact ⟨rfl, below_bytesWorld _ _ _ _ (Nat.le_refl _)⟩
set_option maxRecDepth 100000 in
theorem pub13 (w : World) : Calls Tryz.prog 140 #[.string ⟨#[49, 51]⟩, .int .i64 10, .int .i64 32] w fun e w' => e = .returned (.tuple #[.int .u64 13, .nilIface]) ∧ Below w.heap.size w w' := by
  go_enter Tryz.func140, Tryz.ntmps140
  go_wp2_with (go_at_call 158; refine (pu13 _).mono ?_; rintro e w1 ⟨rfl, hb1⟩)
  go_ret2
  exact ⟨rfl, hb1⟩
set_option maxRecDepth 100000 in
set_option maxHeartbeats 2000000 in
theorem ent13_any (x : Value) (w : World) (hT : LaidM w) : Calls Tryz.prog 106 #[x, strV [35, 49, 51]] w fun e w' => e = .returned (strV [13]) ∧ Below w.heap.size w w' := by
  have htr := fun W => Any.strings_Trim_laid Tryz.laysTrim (by kernel_rfl) ⟨#[49, 51]⟩ ⟨#[48, 49, 50, 51, 52, 53, 54, 55, 56, 57, 97, 98, 99, 100, 101, 102, 65, 66, 67, 68, 69, 70]⟩ W (by decide) (by decide) (ascii_of_all (by decide))
  change ∀ W, Calls Tryz.prog 92 #[.string ⟨#[49, 51]⟩, .string ⟨#[48, 49, 50, 51, 52, 53, 54, 55, 56, 57, 97, 98, 99, 100, 101, 102, 65, 66, 67, 68, 69, 70]⟩] W (fun e w' => e = .returned (strV (Lib.trimS [49, 51] [48, 49, 50, 51, 52, 53, 54, 55, 56, 57, 97, 98, 99, 100, 101, 102, 65, 66, 67, 68, 69, 70])) ∧ Below W.heap.size W w') at htr
  rw [show Lib.trimS [49, 51] [48, 49, 50, 51, 52, 53, 54, 55, 56, 57, 97, 98, 99, 100, 101, 102, 65, 66, 67, 68, 69, 70] = [] by decide] at htr
  go_enter Tryz.func106, Tryz.ntmps106
  go_wp2_with fail
  refine (hasPre [35, 49, 51] ⟨#[35]⟩ true (by decide) _).mono ?_
  rintro e w' ⟨rfl, rfl⟩
  go_wp2_with fail
  refine (zcp _ _).mono ?_
  rintro e w' ⟨rfl, rfl⟩
  have hex : (⟨#[35, 49, 51]⟩ : ByteArray).extract 1 3 = ⟨#[49, 51]⟩ := by decide
  go_wp2_with fail
  refine (hasPre [49, 51] ⟨#[120]⟩ false (by decide) _).mono ?_
  rintro e w' ⟨rfl, rfl⟩
  go_wp2_with fail
  refine (htr _).mono ?_
  rintro e w2 ⟨rfl, hb2⟩
  go_wp2_with fail
  refine (zcp _ _).mono ?_
  rintro e w' ⟨rfl, rfl⟩
  go_wp2_with fail
  refine (pub13 _).mono ?_
  rintro e w3 ⟨rfl, hb3⟩
  go_wp2_with fail
  refine (zcp _ _).mono ?_
  rintro e w' ⟨rfl, rfl⟩
  have hv : validB ⟨#[13]⟩ = true := by decide +kernel
  have hb23 := hb2.trans (hb3.mono hb2.size)
  have hva := zfj ⟨#[13]⟩ w' (hT.below hb23) (by decide)
  rw [hv] at hva
  go_wp2_with fail
  refine hva.mono ?_
  rintro e w5 ⟨rfl, hb5⟩
  go_wp2_with fail
  refine (zcp _ _).mono ?_
  rintro e w' ⟨rfl, rfl⟩
  go_wp2
  go_ret
  exact ⟨rfl, hb23.trans (hb5.mono hb23.size)⟩
end Go.Proofs.YtpaopeiegaijiaaGreatDoor
