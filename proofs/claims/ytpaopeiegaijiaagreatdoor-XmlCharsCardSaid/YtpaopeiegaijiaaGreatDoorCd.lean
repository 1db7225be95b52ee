import Derived.Test.YtpaopeiegaijiaaGreatDoorXXmlCharsx3
import Derived.Test.YtpaopeiegaijiaaGreatDoorXpN
import Derived.Test.YtpaopeiegaijiaaGreatDoorXp
/- XmlChars: what is built of a text. -/
namespace Go.Proofs.YtpaopeiegaijiaaGreatDoor.PwXmlChars
open Go.RowKit Go.Lib Go.Proofs.YtpaopeiegaijiaaGreatDoor Go.Proofs.YtpaopeiegaijiaaGreatDoor.XXmlChars Go.Proofs.YtpaopeiegaijiaaGreatDoorW.PrintWords Go.Proofs.YtpaopeiegaijiaaGreatDoorW.PrintLast
set_option linter.unusedVariables false
set_option linter.unusedSimpArgs false
def hexC (d : Nat) : UInt8 := if d < 10 then UInt8.ofNat (48 + d) else UInt8.ofNat (87 + d)
/-- The digits of a number at a base, ahead of s. -/
def digF (b : Nat) : Nat → Nat → List UInt8 → List UInt8
  | 0, _, s => s
  | k + 1, n, s => if n / b = 0 then hexC (n % b) :: s else digF b k (n / b) (hexC (n % b) :: s)
theorem digF_len (b : Nat) : ∀ (k n : Nat) (s : List UInt8), (digF b k n s).length ≤ s.length + k
  | 0, _, s => by simp [digF]
  | k + 1, n, s => by
    unfold digF
    split
    · simp
    · have := digF_len b k (n / b) (hexC (n % b) :: s)
      simp only [List.length_cons] at this
      omega
/-- One character told by its number. -/
def entR (tens : Bool) (r : Nat) : List UInt8 := if tens then 38 :: 35 :: (digF 10 30 r [] ++ [59]) else 38 :: 35 :: 120 :: (digF 16 30 r [] ++ [59])
theorem entR_len (tens : Bool) (r : Nat) : (entR tens r).length ≤ 40 := by
  have h1 := digF_len 10 30 r []
  have h2 := digF_len 16 30 r []
  unfold entR
  split <;> simp at h1 h2 ⊢ <;> omega
def allL (tens : Bool) : Nat → List UInt8 → List UInt8
  | 0, _ => []
  | f + 1, l => if l = [] then [] else entR tens (decodeL l).1 ++ allL tens f (l.drop (decodeL l).2)
theorem dig_tab : ∀ d : Nat, d < 16 → (⟨#[48, 49, 50, 51, 52, 53, 54, 55, 56, 57, 97, 98, 99, 100, 101, 102]⟩ : ByteArray).extract d (d + 1) = ⟨#[hexC d]⟩ := by decide +kernel
theorem dig_cons (c : UInt8) (s : List UInt8) : (⟨#[c]⟩ : ByteArray) ++ ⟨s.toArray⟩ = ⟨(c :: s).toArray⟩ := by
  have h : ((⟨#[c]⟩ : ByteArray) ++ ⟨s.toArray⟩).data.toList = c :: s := by simp [ByteArray.data_append]
  rw [← h]
theorem dig_l0 (b : Nat) (hb : b = 10 ∨ b = 16) : ∀ (k n : Nat) (s : List UInt8), n < b ^ k → n < 4294967296 → s.length + k ≤ 100 → 1 ≤ k → calepinlaw07_digits.l0 k (n : Int) (b : Int) ⟨s.toArray⟩ = some ⟨(digF b k n s).toArray⟩
  | 0, n, s, _, _, _, h => by omega
  | k + 1, n, s, hn, h32, hs, _ => by
    have hb0 : 0 < b := by omega
    have hb16 : b ≤ 16 := by omega
    have hd : n % b < b := Nat.mod_lt _ hb0
    have hq : n / b ≤ n := Nat.div_le_self _ _
    have m1 : Int.tmod (n : Int) (b : Int) = ((n % b : Nat) : Int) := by rw [Int.tmod_eq_emod_of_nonneg (by omega)]; rfl
    have m2 : Int.tdiv (n : Int) (b : Int) = ((n / b : Nat) : Int) := by rw [Int.tdiv_eq_ediv_of_nonneg (by omega)]; rfl
    have hk : n / b ≠ 0 → 1 ≤ k := fun h0 => by
      rcases Nat.eq_zero_or_pos k with e | e
      · subst e; rw [Nat.zero_add, Nat.pow_one] at hn; exact absurd (Nat.div_eq_of_lt hn) h0
      · exact e
    have hqk : n / b < b ^ k := (Nat.div_lt_iff_lt_mul hb0).2 (by rw [← Nat.pow_succ]; exact hn)
    have hsz : (⟨s.toArray⟩ : ByteArray).size = s.length := sz_l s
    have IH := fun (h1 : 1 ≤ k) => dig_l0 b hb k (n / b) (hexC (n % b) :: s) hqk (by omega) (by simp only [List.length_cons]; omega) h1
    unfold digF
    rw [calepinlaw07_digits.l0, if_neg (by omega), m1, m2]
    have hq2 : n / b < 4294967296 := Nat.lt_of_le_of_lt hq h32
    clear m1 m2 hqk hn hq
    generalize n % b = d at *
    generalize n / b = q at *
    have w1 : IntKind.u64.wrap ((d : Int) + 1) = ((d + 1 : Nat) : Int) := by rw [IntKind.wrap_u64]; omega
    have w2 : IntKind.u64.wrap (q : Int) = (q : Int) := by rw [IntKind.wrap_u64]; omega
    rw [w1, w2, if_pos (by omega), if_pos (by omega), if_pos (by omega), Int.toNat_natCast, Int.toNat_natCast, dig_tab d (by omega), if_pos (by rw [hsz]; show 1 + s.length ≤ _; omega), dig_cons]
    by_cases h0 : q = 0
    · rw [if_pos h0, if_pos (by omega)]
    · rw [if_neg h0, if_neg (by omega)]
      exact IH (hk h0)
theorem dig_f (b : Nat) (hb : b = 10 ∨ b = 16) (n : Nat) (hn : n < 4294967296) : calepinlaw07_digits.f 30 (n : Int) (b : Int) = some ⟨(digF b 30 n []).toArray⟩ := by
  refine dig_l0 b hb 30 n [] ?_ hn (by decide) (by decide)
  rcases hb with rfl | rfl
  · exact Nat.lt_of_lt_of_le hn (by decide)
  · exact Nat.lt_of_lt_of_le hn (by decide)
end Go.Proofs.YtpaopeiegaijiaaGreatDoor.PwXmlChars
