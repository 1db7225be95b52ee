import Derived.Test.YtpaopeiegaijiaaGreatDoorXXmlDeepx4
/- XmlDeep: for each of the thirty depths. -/
namespace Go.Proofs.YtpaopeiegaijiaaGreatDoor.PureXmlDeep
open Go.RowKit Go.Proofs.YtpaopeiegaijiaaGreatDoor.XXmlDeep Go.Proofs.YtpaopeiegaijiaaGreatDoorW.PrintWords Go.Proofs.YtpaopeiegaijiaaGreatDoorW.PrintLast
set_option maxRecDepth 100000 in
theorem first_true : calepinlaw07_first.f 300 = some true := by kernel_rfl
set_option maxRecDepth 100000 in
theorem deep_all : (List.range 30).all (fun m => calepinlaw07_XmlDeep.l0 300 ((m : Nat) + 1 : Int) ⟨#[]⟩ [] ((m : Nat) + 1 : Int) 0 == some true) = true := by kernel_rfl
theorem u64_range (a : Int) : 0 ≤ IntKind.u64.wrap a ∧ IntKind.u64.wrap a < 18446744073709551616 := by
  simp only [IntKind.wrap]
  constructor
  · simp [IntKind.signed, IntKind.bits]; omega
  · simp [IntKind.signed, IntKind.bits]; omega
theorem XmlDeep : calepinlaw07_XmlDeep.Pure := by
  intro a0 _
  refine ⟨300, ?_⟩
  rw [calepinlaw07_XmlDeep.f, first_true]
  obtain ⟨h0, h1⟩ := u64_range a0
  obtain ⟨u, hu⟩ : ∃ u : Nat, IntKind.u64.wrap a0 = u := ⟨(IntKind.u64.wrap a0).toNat, by omega⟩
  rw [hu]
  have ht : Int.tmod (u : Int) 30 = ((u % 30 : Nat) : Int) := by rw [Int.tmod_eq_emod_of_nonneg (by omega)]; omega
  have hm : u % 30 < 30 := Nat.mod_lt _ (by decide)
  generalize u % 30 = m at *
  have hw : wrap64 (1 + wrap64 (Int.tmod (u : Int) 30)) = (m : Int) + 1 := by rw [ht]; unfold wrap64; omega
  rw [hw]
  have h := List.all_eq_true.1 deep_all m (List.mem_range.2 hm)
  rw [Option.bind_some, if_pos rfl]
  exact eq_of_beq h
end Go.Proofs.YtpaopeiegaijiaaGreatDoor.PureXmlDeep
