import Derived.Test.YtpaopeiegaijiaaGreatDoorXe
import Derived.Test.YtpaopeiegaijiaaGreatDoorSw
import Derived.Lib.ConvBytes
import Derived.Lib.Hide
import Derived.Lib.ParseIntBMem
/- Numbers of an entity: in tens by the shelf, in sixteens walked here. -/
namespace Go.Proofs.YtpaopeiegaijiaaGreatDoor
open Go.RowKit Go.Shelf Go.Lib Go.Joins Go.Proofs.YtpaopeiegaijiaaGreatDoorW.PrintWords
set_option linter.unusedVariables false
set_option linter.unusedSimpArgs false
/-- What a digit in sixteens tells. -/
def hexD (c : UInt8) : Nat := if c.toNat ≤ 57 then c.toNat - 48 else if c.toNat ≤ 70 then c.toNat - 55 else c.toNat - 87
def isHex (c : UInt8) : Bool := decide (48 ≤ c.toNat ∧ c.toNat ≤ 57) || decide (97 ≤ c.toNat ∧ c.toNat ≤ 102) || decide (65 ≤ c.toNat ∧ c.toNat ≤ 70)
/-- The number of a row of digits in sixteens, or none: over 32 bits. -/
def hexM : Nat → List UInt8 → Option Nat
  | acc, [] => some acc
  | acc, c :: r => if 4294967295 < acc * 16 + hexD c then none else hexM (acc * 16 + hexD c) r
def hexV : Option Nat → Value
  | some n => .tuple #[.int .u64 n, .nilIface]
  | none => .tuple #[.int .u64 4294967295, .iface 232 (.int .i64 1)]
theorem or32 : ∀ n : Nat, n < 256 → (97 ≤ n ∧ n ≤ 102 → bits .or .u8 (n : Int) 32 = n) ∧ (65 ≤ n ∧ n ≤ 70 → bits .or .u8 (n : Int) 32 = n + 32) := by decide +kernel
theorem lower_at (c d : Int) (hb : bits .or .u8 c 32 = d) (w : World) : Calls Tryz.prog 173 #[.int .u8 c] w fun e w' => e = .returned (.int .u8 d) ∧ w' = w := by
  subst hb
  go_enter Tryz.func173, Tryz.ntmps173
  go_wp2
  go_ret
  exact ⟨rfl, rfl⟩
set_option maxHeartbeats 32000000 in
set_option maxRecDepth 100000 in
theorem pu16 (bs : List UInt8) (hne : bs ≠ []) (hmax : bs.length ≤ 65536) (hx : ∀ c ∈ bs, isHex c = true) (w : World) :
    Calls Tryz.prog 158 #[strV bs, .int .i64 16, .int .i64 32] w fun e w' => e = .returned (hexV (hexM 0 bs)) ∧ Below w.heap.size w w' := by
  obtain ⟨t, ht⟩ : ∃ t : ByteArray, t = ⟨bs.toArray⟩ := ⟨_, rfl⟩
  have hsz : t.size = bs.length := by subst ht; simp [ByteArray.size]
  have hl0 : 0 < bs.length := by cases bs with | nil => exact absurd rfl hne | cons _ _ => simp
  have htl : t.data.toList = bs := by subst ht; rfl
  show Calls Tryz.prog 158 #[.string ⟨bs.toArray⟩, .int .i64 16, .int .i64 32] w _
  rw [← ht]
  have hemp : t.toList.isEmpty = false := by
    rw [← decide_eq_emptyBytes]
    exact decide_eq_false (fun h => by rw [h] at hsz; have : bs.length = 0 := hsz.symm; omega)
  have hcv := Lib.run_convert_string_bytes (P := Tryz.prog) w 9 93 5 t (u := .string) Tryz.underlying9 Tryz.underlying93 Tryz.underlying5
  have hB : ∀ j, j < t.size → (Lib.bytesWorld w 5 t).cell? ⟨w.heap.size, j, none⟩ = some (.int .u8 (t.data.toList.getD j 0).toNat) := fun j hj => Lib.bytesWorld_cell w 5 t j hj
  have hBel : Below w.heap.size w (Lib.bytesWorld w 5 t) := below_bytesWorld _ _ _ _ (Nat.le_refl _)
  obtain ⟨W1, hW1⟩ : ∃ W1, W1 = Lib.bytesWorld w 5 t := ⟨_, rfl⟩
  rw [← hW1] at hcv hB hBel
  clear hW1
  rw [htl] at hB
  clear htl ht
  have hmv : IntKind.u64.wrap (IntKind.u64.wrap 4294967296 - 1) = 4294967295 := by
    rw [IntKind.wrap_u64, IntKind.wrap_u64]
    decide
  go_enter Tryz.func158, Tryz.ntmps158
  go_wp2
  go_loop [12, 13, 101] (fun vu vn vi => ∃ (k acc : Nat) (a : Int), vu = .bool false ∧ vn = .int .u64 a ∧ vi = .int .i64 k ∧ k ≤ t.size ∧ Hid (a = (acc : Int) ∧ acc ≤ 4294967295 ∧ hexM 0 bs = hexM acc (bs.drop k)))
    (fun _ _ vi => t.size - (intOf vi).toNat)
  case atStart => exact ⟨0, 0, 0, rfl, rfl, rfl, by omega, rfl, by omega, rfl⟩
  case round =>
    obtain ⟨k, acc, a, rfl, rfl, rfl, hk, hh⟩ := hrel
    obtain ⟨ha, hacc, hdec⟩ := hh.out
    clear hh
    have a0 : 0 ≤ a := by omega
    have a1 : a ≤ 4294967295 := by omega
    by_cases hkn : k < t.size
    · have hc := hB k hkn
      have hdrop : bs.drop k = bs[k]'(by omega) :: bs.drop (k + 1) := List.drop_eq_getElem_cons (by omega)
      have hget : bs.getD k 0 = bs[k]'(by omega) := by simp [List.getD, List.getElem?_eq_getElem (show k < bs.length by omega)]
      rw [hdrop] at hdec
      rw [hget] at hc
      have hxc : isHex (bs[k]'(by omega)) = true := hx _ (List.getElem_mem _)
      generalize bs[k]'(by omega) = c at hc hdec hxc
      have hc256 : c.toNat < 256 := c.toNat_lt
      have hu : hexM acc (c :: bs.drop (k + 1)) = if 4294967295 < acc * 16 + hexD c then none else hexM (acc * 16 + hexD c) (bs.drop (k + 1)) := rfl
      rw [hu] at hdec
      clear hB hdrop hget hu hx
      by_cases hdig : 48 ≤ c.toNat ∧ c.toNat ≤ 57
      · obtain ⟨hd0, hd1⟩ := hdig
        have hD : hexD c = c.toNat - 48 := by unfold hexD; rw [if_pos hd1]
        by_cases hov : 4294967295 < acc * 16 + hexD c
        · rw [if_pos hov] at hdec
          rw [hD] at hov
          have iov : 4294967295 < a * 16 + ((c.toNat : Int) - 48) := by omega
          clear hacc hov ha hxc hD
          go_wp2
          go_ret2
          exact ⟨by first | rfl | (rw [hdec]; rfl), hBel⟩
        · rw [if_neg hov] at hdec
          rw [hD] at hov hdec
          have HN : Hid (a * 16 + ((c.toNat : Int) - 48) = ((acc * 16 + (c.toNat - 48) : Nat) : Int) ∧ acc * 16 + (c.toNat - 48) ≤ 4294967295 ∧ hexM 0 bs = hexM (acc * 16 + (c.toNat - 48)) (bs.drop (k + 1))) := Lib.hid ⟨by omega, by omega, hdec⟩
          have iov : a * 16 + ((c.toNat : Int) - 48) ≤ 4294967295 := by omega
          clear hacc hov hdec ha hxc hD
          go_wp2
          refine ⟨⟨k + 1, acc * 16 + (c.toNat - 48), a * 16 + ((c.toNat : Int) - 48), rfl, (by first | rfl | (congr 1; omega)), (by first | rfl | (congr 1; omega)), by omega, HN⟩, by simp [intOf]; omega⟩
      · obtain ⟨d, hb, hd0, hd1, hD, hc58, hc95⟩ : ∃ d : Nat, bits .or .u8 (c.toNat : Int) 32 = d ∧ 97 ≤ d ∧ d ≤ 102 ∧ hexD c = d - 87 ∧ 57 < c.toNat ∧ c.toNat ≠ 95 := by
          obtain ⟨o1, o2⟩ := or32 c.toNat hc256
          unfold isHex at hxc
          simp only [Bool.or_eq_true, decide_eq_true_eq] at hxc
          rcases hxc with (h | h) | h
          · exact absurd h hdig
          · exact ⟨c.toNat, o1 h, h.1, h.2, by unfold hexD; rw [if_neg (by omega), if_neg (by omega)], by omega, by omega⟩
          · exact ⟨c.toNat + 32, by rw [o2 h]; rfl, by omega, by omega, by unfold hexD; rw [if_neg (by omega), if_pos (by omega)]; omega, by omega, by omega⟩
        have hlow := fun W => lower_at (c.toNat : Int) (d : Int) hb W
        by_cases hov : 4294967295 < acc * 16 + hexD c
        · rw [if_pos hov] at hdec
          rw [hD] at hov
          have iov : 4294967295 < a * 16 + ((d : Int) - 87) := by omega
          clear hacc hov ha hxc hD hb hdig
          go_wp2_with (go_at_call 173; refine (hlow _).mono ?_; rintro e w' ⟨rfl, rfl⟩)
          go_ret2
          exact ⟨by first | rfl | (rw [hdec]; rfl), hBel⟩
        · rw [if_neg hov] at hdec
          rw [hD] at hov hdec
          have HN : Hid (a * 16 + ((d : Int) - 87) = ((acc * 16 + (d - 87) : Nat) : Int) ∧ acc * 16 + (d - 87) ≤ 4294967295 ∧ hexM 0 bs = hexM (acc * 16 + (d - 87)) (bs.drop (k + 1))) := Lib.hid ⟨by omega, by omega, hdec⟩
          have iov : a * 16 + ((d : Int) - 87) ≤ 4294967295 := by omega
          clear hacc hov hdec ha hxc hD hb hdig
          go_wp2_with (go_at_call 173; refine (hlow _).mono ?_; rintro e w' ⟨rfl, rfl⟩)
          refine ⟨⟨k + 1, acc * 16 + (d - 87), a * 16 + ((d : Int) - 87), rfl, (by first | rfl | (congr 1; omega)), (by first | rfl | (congr 1; omega)), by omega, HN⟩, by simp [intOf]; omega⟩
    · have hkk : k = t.size := by omega
      subst hkk
      have hF : hexM acc (bs.drop t.size) = some acc := by rw [List.drop_eq_nil_of_le (by omega)]; rfl
      rw [hF] at hdec
      subst ha
      clear hacc hF a0 a1
      go_wp2
      go_ret2
      exact ⟨by first | rfl | (rw [hdec]; rfl), hBel⟩
end Go.Proofs.YtpaopeiegaijiaaGreatDoor
