/- Heads of messages: the rows up to an empty one; texts cut at their row ends. -/
import Derived.Test.YtipfekjmcddelaaGreatDoorHl
namespace Go.Proofs.YtipfekjmcddelaaGreatDoor
open Go.Lib
def consH (c : UInt8) : List (List UInt8) → List (List UInt8)
  | h :: t => (c :: h) :: t
  | [] => []
/-- A text cut at its row ends. -/
def spl2 : List UInt8 → List (List UInt8)
  | [] => [[]]
  | [c] => [[c]]
  | c :: d :: r => if c = 13 ∧ d = 10 then [] :: spl2 r else consH c (spl2 (d :: r))
/-- The rows of a head, and what stands behind it. -/
def hd : List UInt8 → Option (List (List UInt8) × List UInt8)
  | [] => none
  | [_] => none
  | c :: d :: r => if c = 13 ∧ d = 10 then (if crlf.isPrefixOf r = true then some ([[]], r.drop 2) else (hd r).map fun x => ([] :: x.1, x.2)) else (hd (d :: r)).map fun x => (consH c x.1, x.2)
theorem zfx (r : List UInt8) : crlf.isPrefixOf r = true ↔ ∃ q, r = 13 :: 10 :: q := by
  constructor
  · intro h
    obtain ⟨q, hq⟩ := List.isPrefixOf_iff_prefix.1 h
    exact ⟨q, hq.symm⟩
  · rintro ⟨q, rfl⟩
    simp [crlf, List.isPrefixOf]
theorem zev (c d : UInt8) (r : List UInt8) : crlf2.isPrefixOf (c :: d :: r) = (decide (c = 13 ∧ d = 10) && crlf.isPrefixOf r) := by
  rw [Bool.eq_iff_iff]
  simp only [crlf2, crlf, List.isPrefixOf, Bool.and_eq_true, beq_iff_eq, decide_eq_true_eq]
  constructor
  · rintro ⟨rfl, rfl, h⟩; exact ⟨⟨rfl, rfl⟩, h⟩
  · rintro ⟨⟨rfl, rfl⟩, h⟩; exact ⟨rfl, rfl, h⟩
theorem zdn (b : UInt8) (l sub : List UInt8) (h : sub.isPrefixOf (b :: l) = false) : index (b :: l) sub = if index l sub = -1 then -1 else index l sub + 1 := by
  rw [index, if_neg (by simp [h])]
  by_cases h2 : index l sub = -1
  · rw [if_pos h2, if_pos (by simp [h2])]
  · rw [if_neg h2, if_neg (by simpa using h2)]
theorem zfu : ∀ (l : List UInt8), hd l = none → index l crlf2 = -1
  | [], _ => rfl
  | [c], _ => zej _ _ (by show 1 < 4; decide)
  | c :: d :: r, h => by
    rw [hd] at h
    by_cases hc : c = 13 ∧ d = 10
    · rw [if_pos hc] at h
      by_cases hp : crlf.isPrefixOf r = true
      · rw [if_pos hp] at h; cases h
      · rw [if_neg hp, Option.map_eq_none_iff] at h
        have ih := zfu r h
        obtain ⟨rfl, rfl⟩ := hc
        rw [zdn _ _ _ (by rw [zev]; simp [hp]), zdn _ _ _ (by simp [crlf2, List.isPrefixOf]), ih]
        rfl
    · rw [if_neg hc, Option.map_eq_none_iff] at h
      have ih := zfu (d :: r) h
      rw [zdn _ _ _ (by rw [zev, decide_eq_false hc]; rfl), ih]
      rfl
theorem zfg : ∀ (l : List UInt8) (rs : List (List UInt8)) (rest : List UInt8), hd l = some (rs, rest) → ∃ J, l = J ++ (crlf2 ++ rest) ∧ index l crlf2 = J.length ∧ spl2 J = rs
  | [], _, _, h => by cases h
  | [c], _, _, h => by cases h
  | c :: d :: r, rs, rest, h => by
    rw [hd] at h
    by_cases hc : c = 13 ∧ d = 10
    · rw [if_pos hc] at h
      obtain ⟨rfl, rfl⟩ := hc
      by_cases hp : crlf.isPrefixOf r = true
      · rw [if_pos hp] at h
        obtain ⟨q, rfl⟩ := (zfx r).1 hp
        cases h
        exact ⟨[], rfl, zdo _ _ _ (by simp [crlf2, List.isPrefixOf]), rfl⟩
      · rw [if_neg hp, Option.map_eq_some_iff] at h
        obtain ⟨⟨rs', rest'⟩, h1, h2⟩ := h
        cases h2
        obtain ⟨J, e1, e2, e3⟩ := zfg r rs' rest' h1
        refine ⟨13 :: 10 :: J, by rw [e1]; rfl, ?_, by rw [spl2, if_pos ⟨rfl, rfl⟩, e3]⟩
        rw [zdn _ _ _ (by rw [zev]; simp [hp]), zdn _ _ _ (by simp [crlf2, List.isPrefixOf]), e2, if_neg (by omega), if_neg (by omega)]
        simp only [List.length_cons]
        omega
    · rw [if_neg hc, Option.map_eq_some_iff] at h
      obtain ⟨⟨rs', rest'⟩, h1, h2⟩ := h
      cases h2
      obtain ⟨J, e1, e2, e3⟩ := zfg (d :: r) rs' rest' h1
      refine ⟨c :: J, by rw [e1]; rfl, ?_, ?_⟩
      · rw [zdn _ _ _ (by rw [zev, decide_eq_false hc]; rfl), e2, if_neg (by omega)]
        simp only [List.length_cons]
        omega
      · cases J with
        | nil => rw [← e3]; rfl
        | cons e J =>
          have : d = e := by have := congrArg List.head? e1; simpa using this
          subst this
          rw [spl2, if_neg hc, e3]
theorem spl2_none : ∀ (l : List UInt8), index l crlf = -1 → spl2 l = [l]
  | [], _ => rfl
  | [c], _ => rfl
  | c :: d :: r, h => by
    by_cases hc : c = 13 ∧ d = 10
    · obtain ⟨rfl, rfl⟩ := hc
      rw [zdo _ _ _ (by simp [crlf, List.isPrefixOf])] at h
      cases h
    · rw [zdn _ _ _ (by
        rw [Bool.eq_false_iff]
        intro hp
        obtain ⟨q, hq⟩ := (zfx _).1 hp
        injection hq with a b
        injection b with b _
        exact hc ⟨a, b⟩)] at h
      have ih := spl2_none (d :: r) (by
        by_cases h2 : index (d :: r) crlf = -1
        · exact h2
        · rw [if_neg h2] at h
          have := index_ge (d :: r) crlf
          omega)
      rw [spl2, if_neg hc, ih]
      rfl
theorem spl2_some : ∀ (l : List UInt8) (i : Nat), index l crlf = i → spl2 l = l.take i :: spl2 (l.drop (i + 2))
  | [], i, h => by rw [show index [] crlf = -1 from rfl] at h; omega
  | [c], i, h => by rw [zej crlf [c] (by show 1 < 2; decide)] at h; omega
  | c :: d :: r, i, h => by
    by_cases hc : c = 13 ∧ d = 10
    · obtain ⟨rfl, rfl⟩ := hc
      rw [zdo _ _ _ (by simp [crlf, List.isPrefixOf])] at h
      obtain rfl : i = 0 := by omega
      rw [spl2, if_pos ⟨rfl, rfl⟩]
      rfl
    · rw [zdn _ _ _ (by
        rw [Bool.eq_false_iff]
        intro hp
        obtain ⟨q, hq⟩ := (zfx _).1 hp
        injection hq with a b
        injection b with b _
        exact hc ⟨a, b⟩)] at h
      by_cases h2 : index (d :: r) crlf = -1
      · rw [if_pos h2] at h; omega
      · rw [if_neg h2] at h
        obtain ⟨i, rfl⟩ : ∃ i', i = i' + 1 := ⟨i - 1, by have := index_ge (d :: r) crlf; omega⟩
        rw [spl2, if_neg hc, spl2_some (d :: r) i (by omega)]
        rfl
theorem split_spl2 : ∀ (n : Nat) (l : List UInt8), l.length ≤ n → splitK crlf 0 (count l crlf) l = spl2 l := by
  intro n
  induction n with
  | zero =>
    intro l hl
    obtain rfl : l = [] := List.length_eq_zero_iff.1 (by omega)
    rfl
  | succ n ih =>
    intro l hl
    have hg := index_ge l crlf
    by_cases h : index l crlf = -1
    · rw [show count l crlf = 0 from count_miss h, spl2_none l h]
      rfl
    · obtain ⟨i, hi⟩ : ∃ i : Nat, index l crlf = i := ⟨(index l crlf).toNat, by omega⟩
      have hne : l ≠ [] := by rintro rfl; exact h rfl
      have hlen : 0 < l.length := List.length_pos_iff.2 hne
      rw [count_hit (by simp [crlf]) hi, Nat.add_comm, splitK, hi, if_neg (by simp), spl2_some l i hi, Int.toNat_natCast, Nat.add_zero, show crlf.length = 2 from rfl]
      rw [ih (l.drop (i + 2)) (by rw [List.length_drop]; omega)]
theorem rows_any (s : ByteArray) : splitB ⟨#[13, 10]⟩ 0 (countB s ⟨#[13, 10]⟩) s = (spl2 s.data.toList).map fun l => ⟨l.toArray⟩ := by
  have h1 : (splitB ⟨#[13, 10]⟩ 0 (countB s ⟨#[13, 10]⟩) s).map (·.data.toList) = spl2 s.data.toList := by
    rw [splitB_data]
    exact split_spl2 _ _ (Nat.le_refl _)
  have h2 := congrArg (List.map fun l : List UInt8 => (⟨l.toArray⟩ : ByteArray)) h1
  rw [List.map_map] at h2
  rw [← h2]
  conv => lhs; rw [← List.map_id (splitB ⟨#[13, 10]⟩ 0 (countB s ⟨#[13, 10]⟩) s)]
  exact List.map_congr_left fun x _ => (Lib.mk_data x).symm
theorem consH_len (c : UInt8) (x : List (List UInt8)) : (consH c x).length = x.length := by cases x <;> rfl
theorem zga : ∀ (l : List UInt8), spl2 l ≠ []
  | [] => by simp [spl2]
  | [c] => by simp [spl2]
  | c :: d :: r => by
    rw [spl2]
    split
    · simp
    · have := zga (d :: r)
      cases h : spl2 (d :: r) with
      | nil => exact absurd h this
      | cons a b => simp [consH]
theorem zfp : ∀ (l : List UInt8), (spl2 l).length ≤ l.length + 1
  | [] => by simp [spl2]
  | [c] => by simp [spl2]
  | c :: d :: r => by
    rw [spl2]
    split
    · have := zfp r; simp only [List.length_cons]; omega
    · have := zfp (d :: r); rw [consH_len]; simp only [List.length_cons] at this ⊢; omega
theorem zfq : ∀ (l : List UInt8), ∀ x ∈ spl2 l, x.length ≤ l.length
  | [], x, h => by simp [spl2] at h; subst h; simp
  | [c], x, h => by simp [spl2] at h; subst h; simp
  | c :: d :: r, x, h => by
    rw [spl2] at h
    split at h
    · rcases List.mem_cons.1 h with rfl | h
      · simp
      · have := zfq r x h; simp only [List.length_cons]; omega
    · have ih := zfq (d :: r)
      cases hs : spl2 (d :: r) with
      | nil => rw [hs] at h; cases h
      | cons a b =>
        rw [hs] at h ih
        rw [consH] at h
        rcases List.mem_cons.1 h with rfl | h
        · have := ih a List.mem_cons_self; simp only [List.length_cons] at this ⊢; omega
        · have := ih x (List.mem_cons_of_mem _ h); simp only [List.length_cons] at this ⊢; omega
end Go.Proofs.YtipfekjmcddelaaGreatDoor
