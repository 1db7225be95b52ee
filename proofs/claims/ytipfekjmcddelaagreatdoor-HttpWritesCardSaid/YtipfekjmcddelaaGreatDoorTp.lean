/- Plain laws of tokens as texts. -/
import Derived.Test.YtipfekjmcddelaaGreatDoorNm
import Derived.Lib.IndexBytes
import Derived.Lib.IndexMore
import Derived.Lib.IndexLaws
namespace Go.Proofs.YtipfekjmcddelaaGreatDoor
open Go.Lib
theorem valD_inj : ∀ (x y : List UInt8) (a : Nat), x.length = y.length → (∀ c ∈ x, isDig c) → (∀ c ∈ y, isDig c) → valD a x = valD a y → x = y
  | [], [], _, _, _, _, _ => rfl
  | [], _ :: _, _, h, _, _, _ => by simp at h
  | _ :: _, [], _, h, _, _, _ => by simp at h
  | c :: x, d :: y, a, h, hx, hy, hv => by
    have h' : x.length = y.length := by simpa using h
    have hc := hx c List.mem_cons_self
    have hd := hy d List.mem_cons_self
    have hx' : ∀ z ∈ x, isDig z := fun z hz => hx z (List.mem_cons_of_mem _ hz)
    have hy' : ∀ z ∈ y, isDig z := fun z hz => hy z (List.mem_cons_of_mem _ hz)
    unfold isDig at hc hd
    rw [zds, zds] at hv
    have g1 := zfn (a * 10 + (c.toNat - 48)) x
    have g2 := zfm (a * 10 + (c.toNat - 48)) x hx'
    have g3 := zfn (a * 10 + (d.toNat - 48)) y
    have g4 := zfm (a * 10 + (d.toNat - 48)) y hy'
    rw [h'] at g1 g2
    have hcd : c.toNat = d.toNat := by
      rcases Nat.lt_trichotomy c.toNat d.toNat with h2 | h2 | h2
      · exfalso
        have : a * 10 + (c.toNat - 48) + 1 ≤ a * 10 + (d.toNat - 48) := by omega
        have := Nat.mul_le_mul_right (10 ^ y.length) this
        omega
      · exact h2
      · exfalso
        have : a * 10 + (d.toNat - 48) + 1 ≤ a * 10 + (c.toNat - 48) := by omega
        have := Nat.mul_le_mul_right (10 ^ y.length) this
        omega
    obtain rfl : c = d := UInt8.toNat_inj.1 hcd
    rw [valD_inj x y _ h' hx' hy' hv]
/-- A canonical text's value lies between two powers of ten. -/
theorem canon_ge {l : List UInt8} (h : Canon l) (h2 : 1 < l.length) : 10 ^ (l.length - 1) ≤ valD 0 l := by
  obtain ⟨hne, hd, hz⟩ := h
  cases l with
  | nil => exact absurd rfl hne
  | cons c l =>
    have hc := hd c List.mem_cons_self
    unfold isDig at hc
    have h48 : c.toNat ≠ 48 := fun h => hz ⟨by rw [List.head?_cons]; exact congrArg some (UInt8.toNat_inj.1 h), h2⟩
    have := zfn (0 * 10 + (c.toNat - 48)) l
    rw [zds]
    refine Nat.le_trans ?_ this
    rw [List.length_cons, Nat.add_sub_cancel]
    exact Nat.le_mul_of_pos_left _ (by omega)
theorem canon_inj {x y : List UInt8} (hx : Canon x) (hy : Canon y) (h : valD 0 x = valD 0 y) : x = y := by
  have lx : 0 < x.length := List.length_pos_iff.2 hx.1
  have ly : 0 < y.length := List.length_pos_iff.2 hy.1
  have ux := zfm 0 x hx.2.1
  have uy := zfm 0 y hy.2.1
  rw [Nat.zero_add, Nat.one_mul] at ux uy
  rcases Nat.lt_trichotomy x.length y.length with hl | hl | hl
  · exfalso
    have g := canon_ge hy (by omega)
    have : 10 ^ x.length ≤ 10 ^ (y.length - 1) := Nat.pow_le_pow_right (by decide) (by omega)
    omega
  · exact valD_inj x y 0 hl hx.2.1 hy.2.1 h
  · exfalso
    have g := canon_ge hx (by omega)
    have : 10 ^ y.length ≤ 10 ^ (x.length - 1) := Nat.pow_le_pow_right (by decide) (by omega)
    omega
theorem canon_dec {l : List UInt8} (h : Canon l) : decDigits (valD 0 l) = l := canon_inj (zfi _) h (zgb _)
def most : Nat := 4611686018427387904
def Right (b a : Nat) : Prop := 1 ≤ b ∧ b ≤ a ∧ a ≤ most
instance (b a : Nat) : Decidable (Right b a) := inferInstanceAs (Decidable (_ ∧ _))
/-- What Number answers, by numerals. -/
theorem numV_o (s : ByteArray) (m : Nat) (hm : m < 18446744073709551616) : (∃ n, n ≤ m ∧ s.data.toList = decDigits n ∧ numV s m = (n, true)) ∨ ((∀ n, n ≤ m → s.data.toList ≠ decDigits n) ∧ numV s m = (0, false)) := by
  rcases numV_eq s m hm with ⟨h1, h2, h3⟩ | ⟨h1, h2⟩
  · exact .inl ⟨_, h2, (canon_dec h1).symm, h3⟩
  · refine .inr ⟨fun n hn he => h1 ?_, h2⟩
    rw [he, zgb]
    exact ⟨zfi n, hn⟩
end Go.Proofs.YtipfekjmcddelaaGreatDoor
