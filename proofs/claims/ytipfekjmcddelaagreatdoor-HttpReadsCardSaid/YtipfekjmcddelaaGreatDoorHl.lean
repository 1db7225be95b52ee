/- Http: plain laws over lists of bytes. -/
import Derived.Test.YtipfekjmcddelaaGreatDoorHb
import Derived.Test.YtipfekjmcddelaaGreatDoorCl
namespace Go.Proofs.YtipfekjmcddelaaGreatDoor
open Go.Lib
/-- A sign of a field's name? -/
def nameC (c : UInt8) : Bool := !noName c.toNat
theorem high_rune (c : UInt8) (l : List UInt8) (h : ¬ c.toNat < 128) : 128 ≤ (decodeL (c :: l)).1 := by
  rw [decodeL_N]
  simp only [List.getD_cons_zero]
  unfold decodeN
  have := c.toNat_lt
  rw [if_neg h]
  split
  · split <;> (simp only; omega)
  · split
    · split <;> (simp only; omega)
    · split
      · split <;> (simp only; omega)
      · simp only; omega
theorem names_from (s : ByteArray) : ∀ (f pos : Nat), s.size ≤ pos + f → (idxFuncFrom noName true s f pos < 0 ↔ ∀ c ∈ s.data.toList.drop pos, nameC c = true) := by
  have hsz := size_eq s
  intro f
  induction f with
  | zero =>
    intro pos h
    rw [List.drop_of_length_le (by omega), idxFuncFrom]
    simp
  | succ f ih =>
    intro pos h
    unfold idxFuncFrom
    by_cases hp : pos < s.size
    · have hlt : pos < s.data.toList.length := by omega
      have hd := List.drop_eq_getElem_cons hlt
      rw [if_pos hp, ← decodeL_drop, hd]
      obtain ⟨c, hc⟩ : ∃ c, s.data.toList[pos] = c := ⟨_, rfl⟩
      rw [hc]
      by_cases ha : c.toNat < 128
      · rw [decodeL_ascii c _ ha]
        by_cases hn : noName c.toNat = true
        · rw [if_pos hn]
          refine ⟨fun h => by omega, fun h => ?_⟩
          have := h c List.mem_cons_self
          unfold nameC at this
          rw [hn] at this
          cases this
        · rw [if_neg hn, ih (pos + 1) (by omega)]
          simp only [List.mem_cons, forall_eq_or_imp]
          exact ⟨fun h => ⟨by unfold nameC; simpa using hn, h⟩, fun h => h.2⟩
      · have hr := high_rune c (s.data.toList.drop (pos + 1)) ha
        have hnn : ∀ r : Nat, 128 ≤ r → noName r = true := fun r hr => by
          unfold noName
          simp
          omega
        rw [if_pos (hnn _ hr)]
        refine ⟨fun h => by omega, fun h => ?_⟩
        have := h c List.mem_cons_self
        unfold nameC at this
        rw [hnn c.toNat (by omega)] at this
        cases this
    · rw [if_neg hp, List.drop_of_length_le (by omega)]
      simp
theorem nameV_iff (s : ByteArray) : nameV s = true ↔ s.data.toList ≠ [] ∧ s.data.toList.length ≤ 64 ∧ ∀ c ∈ s.data.toList, nameC c = true := by
  have h := names_from s s.size 0 (by omega)
  rw [List.drop_zero] at h
  unfold nameV idxFunc
  rw [Bool.and_eq_true, Bool.and_eq_true, decide_eq_true_eq, decide_eq_true_eq, h, size_eq s]
  simp
/-- A sign of a field's value? -/
def textC (c : UInt8) : Bool := c == 9 || (decide (32 ≤ c.toNat) && decide (c.toNat ≤ 126))
theorem index_skip (p : UInt8) (ps : List UInt8) : ∀ (x y : List UInt8), (∀ c ∈ x, c ≠ p) → 0 ≤ index y (p :: ps) → index (x ++ y) (p :: ps) = x.length + index y (p :: ps)
  | [], y, _, _ => by simp
  | c :: x, y, h, hy => by
    have hc := h c List.mem_cons_self
    have ih := index_skip p ps x y (fun z hz => h z (List.mem_cons_of_mem _ hz)) hy
    rw [List.cons_append, index, ih]
    have hp : ((p :: ps).isPrefixOf (c :: (x ++ y))) = false := by
      simp [List.isPrefixOf, Ne.symm hc]
    rw [hp]
    simp only [Bool.false_eq_true, if_false]
    rw [if_neg (by simp; omega)]
    simp only [List.length_cons]
    omega
theorem index_none (p : UInt8) (ps : List UInt8) : ∀ (x : List UInt8), (∀ c ∈ x, c ≠ p) → index x (p :: ps) = -1
  | [], _ => by simp [index]
  | c :: x, h => by
    have hc := h c List.mem_cons_self
    have ih := index_none p ps x (fun z hz => h z (List.mem_cons_of_mem _ hz))
    rw [index, ih]
    have hp : ((p :: ps).isPrefixOf (c :: x)) = false := by simp [List.isPrefixOf, Ne.symm hc]
    rw [hp]
    simp
theorem index_here (sub y : List UInt8) (b : UInt8) (h : sub.isPrefixOf (b :: y) = true) : index (b :: y) sub = 0 := by
  rw [index, h]
  rfl
def crlf : List UInt8 := [13, 10]
def crlf2 : List UInt8 := [13, 10, 13, 10]
theorem index_short (sub : List UInt8) : ∀ (l : List UInt8), l.length < sub.length → index l sub = -1
  | [], h => by
    cases sub with
    | nil => simp at h
    | cons => simp [index]
  | b :: l, h => by
    have ih := index_short sub l (by simp at h; omega)
    have hp : sub.isPrefixOf (b :: l) = false := by
      rw [Bool.eq_false_iff]
      intro e
      have := (List.isPrefixOf_iff_prefix.1 e).length_le
      omega
    rw [index, hp, ih]
    simp
def lowL (l : List UInt8) : List UInt8 := l.map (turnB 65 90)
def clenL : List UInt8 := [67, 111, 110, 116, 101, 110, 116, 45, 76, 101, 110, 103, 116, 104]
def tencL : List UInt8 := [84, 114, 97, 110, 115, 102, 101, 114, 45, 69, 110, 99, 111, 100, 105, 110, 103]
inductive RowV where
  | bad
  | len (n : Nat)
  | fld (n v : List UInt8)
def rowV (r : List UInt8) : RowV :=
  if (cut r [58]).2.2 = true ∧ nameV ⟨(cut r [58]).1.toArray⟩ = true ∧ (trimS (cut r [58]).2.1 blank).all textC = true ∧ lowL (cut r [58]).1 ≠ lowL tencL then
    (if lowL (cut r [58]).1 = lowL clenL then (if (numV ⟨(trimS (cut r [58]).2.1 blank).toArray⟩ 65536).2 = true then .len (numV ⟨(trimS (cut r [58]).2.1 blank).toArray⟩ 65536).1 else .bad)
    else .fld (cut r [58]).1 (trimS (cut r [58]).2.1 blank))
  else .bad
def foldV : List (List UInt8) → List (List UInt8 × List UInt8) → Nat → Bool → Option (List (List UInt8 × List UInt8) × Nat)
  | [], acc, n, _ => some (acc, n)
  | r :: rs, acc, n, had => match rowV r with
    | .bad => none
    | .len m => if had = true then none else foldV rs acc m true
    | .fld a b => foldV rs (acc ++ [(a, b)]) n had
end Go.Proofs.YtipfekjmcddelaaGreatDoor
namespace Go.Proofs.YtipfekjmcddelaaGreatDoor
open Go.Lib
theorem split_at1 (p : UInt8) (x y : List UInt8) (h : ∀ c ∈ x, c ≠ p) : splitK [p] 0 (count (x ++ p :: y) [p]) (x ++ p :: y) = x :: splitK [p] 0 (count y [p]) y := by
  have h0 : index (p :: y) [p] = 0 := index_here _ _ _ (by simp [List.isPrefixOf])
  have hi : index (x ++ p :: y) [p] = x.length := by
    rw [index_skip p [] x (p :: y) h (by omega), h0]
    simp
  rw [count_hit (by simp) hi, Nat.add_comm, splitK, hi, if_neg (by simp)]
  have e1 : (x ++ p :: y).take ((x.length : Int).toNat + 0) = x := by simp
  have e3 : (x ++ p :: y).drop (x.length + [p].length) = y := by rw [← List.drop_drop]; simp
  rw [e1, Int.toNat_natCast, e3]
theorem split_no1 (p : UInt8) (x : List UInt8) (h : ∀ c ∈ x, c ≠ p) : splitK [p] 0 (count x [p]) x = [x] := by
  rw [show count x [p] = 0 from count_miss (index_none p [] x h)]
  rfl
theorem split_data1 (s : ByteArray) (p : UInt8) (L : List (List UInt8)) (h : splitK [p] 0 (count s.data.toList [p]) s.data.toList = L) : splitB ⟨#[p]⟩ 0 (countB s ⟨#[p]⟩) s = L.map fun l => ⟨l.toArray⟩ := by
  have h1 : (splitB ⟨#[p]⟩ 0 (countB s ⟨#[p]⟩) s).map (·.data.toList) = L := by
    rw [splitB_data]
    exact h
  have h2 := congrArg (List.map fun l : List UInt8 => (⟨l.toArray⟩ : ByteArray)) h1
  rw [List.map_map] at h2
  rw [← h2]
  conv => lhs; rw [← List.map_id (splitB ⟨#[p]⟩ 0 (countB s ⟨#[p]⟩) s)]
  exact List.map_congr_left fun x _ => (Lib.mk_data x).symm
def http11 : List UInt8 := [72, 84, 84, 80, 47, 49, 46, 49]
/-- Method and target? -/
def askedL (m t : List UInt8) : Bool := !m.isEmpty && (decide (m.length ≤ 16) && (m.all (fun c => decide (65 ≤ c.toNat) && decide (c.toNat ≤ 90)) && (!t.isEmpty && (decide (t.length ≤ 256) && t.all (fun c => decide (33 ≤ c.toNat) && decide (c.toNat ≤ 126))))))
end Go.Proofs.YtipfekjmcddelaaGreatDoor
