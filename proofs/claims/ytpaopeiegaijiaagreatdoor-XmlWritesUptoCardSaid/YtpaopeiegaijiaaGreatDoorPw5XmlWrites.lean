import Derived.Test.YtpaopeiegaijiaaGreatDoorPw4XmlWrites
import Derived.Test.YtpaopeiegaijiaaGreatDoorXXmlWritesx8
namespace Go.Proofs.YtpaopeiegaijiaaGreatDoor.PwXmlWrites
open Go.RowKit Go.Lib Go.Proofs.YtpaopeiegaijiaaGreatDoor Go.Proofs.YtpaopeiegaijiaaGreatDoor.XXmlWrites Go.Proofs.YtpaopeiegaijiaaGreatDoorW.zgv Go.Proofs.YtpaopeiegaijiaaGreatDoorW.zgw
set_option linter.unusedVariables false
set_option linter.unusedSimpArgs false
set_option maxRecDepth 100000 in
theorem first_true : zbd.f 300 = some true := by kernel_rfl
theorem first_more : ∀ m, zbd.f (300 + m) = some true
  | 0 => first_true
  | m + 1 => zbd.mono (300 + m) _ (first_more m)
theorem same_l0 (l0 : List S60) (hl : l0.length ≤ 1000) : ∀ (m i k : Nat), i + m = l0.length → m + 1 ≤ k → zau.l0 k l0 l0 (l0.length : Int) (i : Int) = some true
  | 0, i, k, hi, hk => by
    obtain ⟨k, rfl⟩ : ∃ k', k = k' + 1 := ⟨k - 1, by omega⟩
    rw [zau.l0, if_neg (by omega)]
  | m + 1, i, k, hi, hk => by
    obtain ⟨k, rfl⟩ : ∃ k', k = k' + 1 := ⟨k - 1, by omega⟩
    have hw : wrap64 ((i : Int) + 1) = ((i + 1 : Nat) : Int) := wrapE _ _ (by omega) (by omega)
    have IH := same_l0 l0 hl m (i + 1) k (by omega) (by omega)
    rw [zau.l0, if_pos (by omega), if_pos (by omega), if_pos (by omega), if_pos (by omega), if_neg (by simp), hw]
    exact IH
theorem same_f (l0 : List S60) (hl : l0.length ≤ 1000) (k : Nat) (hk : l0.length + 1 ≤ k) : zau.f k l0 l0 = some true := by
  have h := same_l0 l0 hl l0.length 0 k (by omega) hk
  unfold zau.f
  first | exact h | (rw [if_pos rfl]; exact h) | (simp; exact h)
theorem ent13 : entL [35, 49, 51] = some (some [13]) := by decide
theorem to_of (l0 : List S60) : (l0.map ofS60).map toS60 = l0 := by
  rw [List.map_map]
  conv => rhs; rw [← List.map_id l0]
  exact List.map_congr_left fun x _ => rfl
theorem parse_print (l0 : List S60) (hc : chkAll (l0.map ofS60)) (s : ByteArray) (hs : bl s = printL (l0.map ofS60)) (hlen : s.size ≤ 65536) : zbp.f s = some (l0, 0) := by
  have hl : (printL (l0.map ofS60)).length = s.size := by rw [← hs]; rfl
  have hd : docL ((printL (l0.map ofS60)).length + 1) (printL (l0.map ofS60)) = some (some (l0.map ofS60)) := by
    cases l0 with
    | nil => exact hc.elim
    | cons p rest => exact doc_print ent13 hc _ (Nat.le_succ _)
  have hvb : validB ⟨s.data.toList.toArray⟩ = true := by
    rw [zeo]
    show okL s.data.toList = true
    rw [show s.data.toList = printL (l0.map ofS60) from hs]
    exact print_valid hc
  have hz : s.data.toList.length = s.size := rfl
  unfold zbp.f parseL
  rw [if_pos (by omega), if_neg (by omega), hvb, if_neg (by decide), ← hl, show s.data.toList = printL (l0.map ofS60) from hs, hd]
  show some ((l0.map ofS60).map toS60, 0) = _
  rw [to_of]
theorem writes (l0 : List S60) (hs : ∀ p ∈ l0, sizeOkB 1048576 p) : ∃ k, zca.f k l0 = some true := by
  by_cases h400 : (l0.length : Int) > 400
  · refine ⟨300, ?_⟩
    rw [zca.f, first_true, Option.bind_some, if_pos rfl, if_pos h400]
  · have hl : l0.length ≤ 1000 := by omega
    obtain ⟨K, hK⟩ : ∃ K, K = 6 * l0.length + l0.length * (1048576 + 7) + 1048576 + 300 := ⟨_, rfl⟩
    refine ⟨300 + K, ?_⟩
    have hM : 1048576 ≤ 2000000 := by decide
    have hC := check_f l0 1048576 hM hl hs (300 + K) (by omega)
    have hR := right_ref l0 1048576 hM hl hs (300 + K) (by omega)
    have hS := same_f l0 hl (300 + K) (by omega)
    rw [zca.f, first_more, Option.bind_some, if_pos rfl, if_neg h400, Option.bind_some, if_pos (by simp; omega), Option.bind_some, List.nil_append, hC, Option.bind_some]
    cases hok : okB l0 with
    | false =>
      rw [hok] at hC hR
      have hP : zbo.f (300 + K) l0 = some (⟨#[]⟩, 70) := by unfold zbo.f; rw [hC]; rfl
      rw [hP, Option.bind_some, hS, Option.bind_some, if_pos rfl, hR, Option.bind_some, if_neg Bool.false_ne_true]
      simp
    | true =>
      rw [hok] at hC hR
      have hc := okB_chk hok
      have hg := good_all hM hs hc
      have hP : zbo.f (300 + K) l0 = some (resT (l0.map ofS60), resN (l0.map ofS60)) := by
        unfold zbo.f
        rw [hC, if_pos rfl, Option.bind_some, if_pos rfl, if_pos ⟨by omega, hg⟩]
      have hQ := print_ref l0 1048576 hM hl hs hc (300 + K) (by omega)
      have hout := out_print hc
      rw [hP, Option.bind_some, hS, Option.bind_some, if_pos rfl, hR, Option.bind_some, if_pos rfl, hQ, Option.bind_some]
      have hsz : (⟨(printL (l0.map ofS60)).toArray⟩ : ByteArray).size = (printL (l0.map ofS60)).length := sz_l _
      by_cases hlong : (((⟨(printL (l0.map ofS60)).toArray⟩ : ByteArray).size : Nat) : Int) > 65536
      · rw [if_pos hlong]
        have hN : resN (l0.map ofS60) = 11 ∧ resT (l0.map ofS60) = ⟨#[]⟩ := by
          unfold resN resT
          rw [hout, if_neg (by omega), if_neg (by omega)]
          exact ⟨rfl, rfl⟩
        rw [hN.1, hN.2]
        simp
      · rw [if_neg hlong]
        have hN : resN (l0.map ofS60) = 0 ∧ resT (l0.map ofS60) = ⟨(printL (l0.map ofS60)).toArray⟩ := by
          unfold resN resT
          rw [hout, if_pos (by omega), if_pos (by omega)]
          exact ⟨rfl, rfl⟩
        rw [hN.1, hN.2, parse_print l0 hc _ (zfc _) (by omega), Option.bind_some]
        simp only [if_true]
        rw [hS]
        rfl
end Go.Proofs.YtpaopeiegaijiaaGreatDoor.PwXmlWrites
