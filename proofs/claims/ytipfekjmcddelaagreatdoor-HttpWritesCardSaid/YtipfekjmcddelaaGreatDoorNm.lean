/- Plain laws of numbers as texts. -/
import Derived.Test.YtipfekjmcddelaaGreatDoorNu
namespace Go.Proofs.YtipfekjmcddelaaGreatDoor
open Go.Lib
def isDig (c : UInt8) : Prop := 48 ≤ c.toNat ∧ c.toNat ≤ 57
instance (c : UInt8) : Decidable (isDig c) := inferInstanceAs (Decidable (_ ∧ _))
/-- What digits say behind acc. -/
def valD (a : Nat) (l : List UInt8) : Nat := l.foldl (fun a c => a * 10 + (c.toNat - 48)) a
theorem zeo (a : Nat) : valD a [] = a := by simp only [valD, List.foldl_nil]
theorem zds (a : Nat) (c : UInt8) (l : List UInt8) : valD a (c :: l) = valD (a * 10 + (c.toNat - 48)) l := by simp only [valD, List.foldl_cons]
/-- Digits, and no 0 ahead of others. -/
def Canon (l : List UInt8) : Prop := l ≠ [] ∧ (∀ c ∈ l, isDig c) ∧ ¬ (l.head? = some 48 ∧ 1 < l.length)
theorem valD_append (a : Nat) (l m : List UInt8) : valD a (l ++ m) = valD (valD a l) m := by
  induction l generalizing a with
  | nil => rfl
  | cons c l ih => exact ih _
theorem zfn (a : Nat) (l : List UInt8) : a * 10 ^ l.length ≤ valD a l := by
  induction l generalizing a with
  | nil => simp [zeo]
  | cons c l ih =>
    have := ih (a * 10 + (c.toNat - 48))
    rw [zds, List.length_cons, Nat.pow_succ]
    refine Nat.le_trans ?_ this
    rw [Nat.mul_comm (10 ^ l.length) 10, ← Nat.mul_assoc]
    exact Nat.mul_le_mul_right _ (Nat.le_add_right _ _)
theorem zfm (a : Nat) (l : List UInt8) (h : ∀ c ∈ l, isDig c) : valD a l < (a + 1) * 10 ^ l.length := by
  induction l generalizing a with
  | nil => simp [zeo]
  | cons c l ih =>
    have h1 := ih (a * 10 + (c.toNat - 48)) (fun x hx => h x (List.mem_cons_of_mem _ hx))
    have h2 := h c List.mem_cons_self
    unfold isDig at h2
    rw [zds, List.length_cons, Nat.pow_succ]
    refine Nat.lt_of_lt_of_le h1 ?_
    rw [Nat.mul_comm (10 ^ l.length) 10, ← Nat.mul_assoc]
    exact Nat.mul_le_mul_right _ (by omega)
theorem zgc (u : Nat) : ∀ c ∈ decDigits u, isDig c := by
  induction u using Nat.strongRecOn with
  | _ u ih =>
    rw [decDigits]
    split
    · intro c hc
      obtain rfl := List.mem_singleton.1 hc
      unfold isDig
      rw [UInt8.toNat_ofNat_of_lt' (by show 48 + u < 256; omega)]
      omega
    · intro c hc
      rcases List.mem_append.1 hc with hc | hc
      · exact ih _ (by omega) c hc
      · obtain rfl := List.mem_singleton.1 hc
        unfold isDig
        rw [UInt8.toNat_ofNat_of_lt' (by show 48 + u % 10 < 256; omega)]
        omega
theorem zgb (u : Nat) : valD 0 (decDigits u) = u := by
  induction u using Nat.strongRecOn with
  | _ u ih =>
    rw [decDigits]
    split
    · simp only [zds, zeo]
      rw [UInt8.toNat_ofNat_of_lt' (by show 48 + u < 256; omega)]
      omega
    · rw [valD_append, ih _ (by omega)]
      simp only [zds, zeo]
      rw [UInt8.toNat_ofNat_of_lt' (by show 48 + u % 10 < 256; omega)]
      omega
theorem dec_ne (u : Nat) : decDigits u ≠ [] := by
  intro h
  have := decDigits_length u
  rw [h] at this
  have := nDigits_pos u
  simp at *
  omega
theorem dec_head (u : Nat) (hu : 0 < u) : (decDigits u).head? ≠ some 48 := by
  induction u using Nat.strongRecOn with
  | _ u ih =>
    rw [decDigits]
    split
    · simp only [List.head?_cons]
      intro h
      have := congrArg UInt8.toNat (Option.some.inj h)
      rw [UInt8.toNat_ofNat_of_lt' (by show 48 + u < 256; omega)] at this
      have h48 : (48 : UInt8).toNat = 48 := rfl
      omega
    · rw [List.head?_append, show ∀ o : Option UInt8, (decDigits (u / 10)).head?.or o = (decDigits (u / 10)).head? from fun o => by cases h : decDigits (u / 10) with | nil => exact absurd h (dec_ne _) | cons _ _ => rfl]
      exact ih _ (by omega) (by omega)
theorem zfi (u : Nat) : Canon (decDigits u) := by
  refine ⟨dec_ne u, zgc u, ?_⟩
  rintro ⟨h1, h2⟩
  by_cases hu : u = 0
  · subst hu
    rw [decDigits_length, nDigits_small (by omega)] at h2
    omega
  · exact dec_head u (by omega) h1
theorem parseM (M a : Nat) (l : List UInt8) (hM : M = 18446744073709551615) (ha : a ≤ M) (h : ∀ c ∈ l, isDig c) : parseUintM M a l = if valD a l ≤ M then .ok (valD a l) else .range := by
  induction l generalizing a with
  | nil => rw [parseUintM, zeo, if_pos ha]
  | cons c l ih =>
    have hc := h c List.mem_cons_self
    unfold isDig at hc
    have hg := zfn (a * 10 + (c.toNat - 48)) l
    have hp : 0 < 10 ^ l.length := Nat.pow_pos (by decide)
    have hg' : a * 10 + (c.toNat - 48) ≤ valD (a * 10 + (c.toNat - 48)) l := Nat.le_trans (Nat.le_mul_of_pos_right _ hp) hg
    rw [parseUintM, if_pos hc, zds]
    split
    · rw [if_neg (by omega)]
    · split
      · rw [if_neg (by omega)]
      · exact ih _ (by omega) (fun x hx => h x (List.mem_cons_of_mem _ hx))
theorem dropW_nil {p : UInt8 → Bool} {l : List UInt8} : l.dropWhile p = [] ↔ ∀ c ∈ l, p c = true := by
  induction l with
  | nil => simp
  | cons c l ih =>
    rw [List.dropWhile_cons]
    split
    · rename_i h
      rw [ih]
      simp [h]
    · rename_i h
      simp [h]
theorem takeW_mem {p : UInt8 → Bool} {l : List UInt8} {c : UInt8} (h : c ∈ l.takeWhile p) : p c = true := by
  induction l with
  | nil => simp at h
  | cons d l ih =>
    rw [List.takeWhile_cons] at h
    split at h
    · rename_i hd
      rcases List.mem_cons.1 h with rfl | h
      · exact hd
      · exact ih h
    · simp at h
theorem trim_digits (l : List UInt8) : trimS l digitSet = [] ↔ ∀ c ∈ l, isDig c := by
  have hd : ∀ c : UInt8, digitSet.contains c = decide (isDig c) := by
    have h : ∀ x : Fin 256, digitSet.contains (UInt8.ofNat x.val) = decide (isDig (UInt8.ofNat x.val)) := by decide +kernel
    intro c
    have := h ⟨c.toNat, c.toNat_lt⟩
    simpa using this
  unfold trimS trimLeftS trimRightS
  constructor
  · intro h
    have h := dropW_nil.1 h
    intro c hc
    by_cases hd' : isDig c
    · exact hd'
    · exfalso
      have : c ∈ (l.reverse.dropWhile (digitSet.contains ·)).reverse := by
        rw [List.mem_reverse]
        have hm : c ∈ l.reverse := List.mem_reverse.2 hc
        rw [← List.takeWhile_append_dropWhile (p := (digitSet.contains ·)) (l := l.reverse)] at hm
        rcases List.mem_append.1 hm with hm | hm
        · have := takeW_mem hm
          rw [hd] at this
          exact absurd (of_decide_eq_true this) hd'
        · exact hm
      have := h c this
      rw [hd] at this
      exact hd' (of_decide_eq_true this)
  · intro h
    have : l.reverse.dropWhile (digitSet.contains ·) = [] := by
      refine dropW_nil.2 ?_
      intro c hc
      rw [hd]
      exact decide_eq_true (h c (List.mem_reverse.1 hc))
    rw [this]
    rfl
/-- What Number answers. -/
theorem numV_eq (s : ByteArray) (m : Nat) (hm : m < 18446744073709551616) : (Canon s.data.toList ∧ valD 0 s.data.toList ≤ m ∧ numV s m = (valD 0 s.data.toList, true)) ∨ (¬ (Canon s.data.toList ∧ valD 0 s.data.toList ≤ m) ∧ numV s m = (0, false)) := by
  unfold numV
  split
  · rename_i h
    right
    exact ⟨fun hc => hc.1.1 h, rfl⟩
  · rename_i hne
    split
    · rename_i h
      right
      exact ⟨fun hc => hc.1.2.2 h, rfl⟩
    · rename_i hz
      split
      · rename_i h
        right
        exact ⟨fun hc => h ((trim_digits _).2 hc.1.2.1), rfl⟩
      · rename_i ht
        have hd := (trim_digits _).1 (Classical.not_not.1 ht)
        rw [parseUintB, if_neg hne, parseM _ 0 _ (by rfl) (Nat.zero_le _) hd]
        by_cases h1 : valD 0 s.data.toList ≤ 2 ^ 64 - 1
        · rw [if_pos h1]
          simp only
          by_cases h2 : valD 0 s.data.toList ≤ m
          · left
            rw [if_pos h2]
            exact ⟨⟨hne, hd, hz⟩, h2, rfl⟩
          · right
            rw [if_neg h2]
            exact ⟨fun hc => h2 hc.2, rfl⟩
        · right
          rw [if_neg h1]
          exact ⟨fun hc => h1 (by omega), rfl⟩
theorem zfs (n m : Nat) (hm : m < 18446744073709551616) : numV ⟨(decDigits n).toArray⟩ m = if n ≤ m then (n, true) else (0, false) := by
  have h := numV_eq ⟨(decDigits n).toArray⟩ m hm
  simp only [zgb] at h
  rcases h with ⟨_, h1, h2⟩ | ⟨h1, h2⟩
  · rw [if_pos h1, h2]
  · rw [if_neg (fun h => h1 ⟨zfi n, h⟩), h2]
theorem zfv (u : Nat) (hu : u < 18446744073709551616) : (decDigits u).length ≤ 20 := by
  rw [decDigits_length]
  rcases Nat.eq_zero_or_pos u with rfl | h
  · rw [nDigits_small (by omega)]; omega
  · have := numDigits_eq u h hu
    split at this <;> omega
end Go.Proofs.YtipfekjmcddelaaGreatDoor
