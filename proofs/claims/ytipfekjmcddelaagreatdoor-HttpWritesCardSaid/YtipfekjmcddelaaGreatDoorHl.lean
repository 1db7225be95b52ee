/- Http: plain laws over lists of bytes. -/
import Derived.Test.YtipfekjmcddelaaGreatDoorHb
import Derived.Test.YtipfekjmcddelaaGreatDoorCl
namespace Go.Proofs.YtipfekjmcddelaaGreatDoor
open Go.Lib
/-- A sign of a field's name? -/
def nameC (c : UInt8) : Bool := !noName c.toNat
theorem high_rune (c : UInt8) (l : List UInt8) (h : ¬ c.toNat < 128) : 128 ≤ (decodeL (c :: l)).1 := by
  rw [decodeL_N]
  simp only [List.getD_cons_zero]
  unfold decodeN
  have := c.toNat_lt
  rw [if_neg h]
  split
  · split <;> (simp only; omega)
  · split
    · split <;> (simp only; omega)
    · split
      · split <;> (simp only; omega)
      · simp only; omega
theorem names_from (s : ByteArray) : ∀ (f pos : Nat), s.size ≤ pos + f → (idxFuncFrom noName true s f pos < 0 ↔ ∀ c ∈ s.data.toList.drop pos, nameC c = true) := by
  have hsz := size_eq s
  intro f
  induction f with
  | zero =>
    intro pos h
    rw [List.drop_of_length_le (by omega), idxFuncFrom]
    simp
  | succ f ih =>
    intro pos h
    unfold idxFuncFrom
    by_cases hp : pos < s.size
    · have hlt : pos < s.data.toList.length := by omega
      have hd := List.drop_eq_getElem_cons hlt
      rw [if_pos hp, ← decodeL_drop, hd]
      obtain ⟨c, hc⟩ : ∃ c, s.data.toList[pos] = c := ⟨_, rfl⟩
      rw [hc]
      by_cases ha : c.toNat < 128
      · rw [decodeL_ascii c _ ha]
        by_cases hn : noName c.toNat = true
        · rw [if_pos hn]
          refine ⟨fun h => by omega, fun h => ?_⟩
          have := h c List.mem_cons_self
          unfold nameC at this
          rw [hn] at this
          cases this
        · rw [if_neg hn, ih (pos + 1) (by omega)]
          simp only [List.mem_cons, forall_eq_or_imp]
          exact ⟨fun h => ⟨by unfold nameC; simpa using hn, h⟩, fun h => h.2⟩
      · have hr := high_rune c (s.data.toList.drop (pos + 1)) ha
        have hnn : ∀ r : Nat, 128 ≤ r → noName r = true := fun r hr => by
          unfold noName
          simp
          omega
        rw [if_pos (hnn _ hr)]
        refine ⟨fun h => by omega, fun h => ?_⟩
        have := h c List.mem_cons_self
        unfold nameC at this
        rw [hnn c.toNat (by omega)] at this
        cases this
    · rw [if_neg hp, List.drop_of_length_le (by omega)]
      simp
theorem zfe (s : ByteArray) : nameV s = true ↔ s.data.toList ≠ [] ∧ s.data.toList.length ≤ 64 ∧ ∀ c ∈ s.data.toList, nameC c = true := by
  have h := names_from s s.size 0 (by omega)
  rw [List.drop_zero] at h
  unfold nameV idxFunc
  rw [Bool.and_eq_true, Bool.and_eq_true, decide_eq_true_eq, decide_eq_true_eq, h, size_eq s]
  simp
theorem nameC_ne {c : UInt8} (h : nameC c = true) : c ≠ 58 ∧ c ≠ 13 ∧ c ≠ 10 ∧ c ≠ 32 ∧ c ≠ 9 := by
  refine ⟨?_, ?_, ?_, ?_, ?_⟩ <;> (intro e; subst e; revert h; decide)
/-- A sign of a field's value? -/
def textC (c : UInt8) : Bool := c == 9 || (decide (32 ≤ c.toNat) && decide (c.toNat ≤ 126))
theorem textC_ne {c : UInt8} (h : textC c = true) : c ≠ 13 ∧ c ≠ 10 := by
  refine ⟨?_, ?_⟩ <;> (intro e; subst e; revert h; decide)
def No13 (l : List UInt8) : Prop := ∀ c ∈ l, c ≠ 13
def joinL : List UInt8 → List (List UInt8) → List UInt8
  | r, [] => r
  | r, r' :: rs => r ++ 13 :: 10 :: joinL r' rs
theorem zdr (p : UInt8) (ps : List UInt8) : ∀ (x y : List UInt8), (∀ c ∈ x, c ≠ p) → 0 ≤ index y (p :: ps) → index (x ++ y) (p :: ps) = x.length + index y (p :: ps)
  | [], y, _, _ => by simp
  | c :: x, y, h, hy => by
    have hc := h c List.mem_cons_self
    have ih := zdr p ps x y (fun z hz => h z (List.mem_cons_of_mem _ hz)) hy
    rw [List.cons_append, index, ih]
    have hp : ((p :: ps).isPrefixOf (c :: (x ++ y))) = false := by
      simp [List.isPrefixOf, Ne.symm hc]
    rw [hp]
    simp only [Bool.false_eq_true, if_false]
    rw [if_neg (by simp; omega)]
    simp only [List.length_cons]
    omega
theorem index_none (p : UInt8) (ps : List UInt8) : ∀ (x : List UInt8), (∀ c ∈ x, c ≠ p) → index x (p :: ps) = -1
  | [], _ => by simp [index]
  | c :: x, h => by
    have hc := h c List.mem_cons_self
    have ih := index_none p ps x (fun z hz => h z (List.mem_cons_of_mem _ hz))
    rw [index, ih]
    have hp : ((p :: ps).isPrefixOf (c :: x)) = false := by simp [List.isPrefixOf, Ne.symm hc]
    rw [hp]
    simp
theorem zdo (sub y : List UInt8) (b : UInt8) (h : sub.isPrefixOf (b :: y) = true) : index (b :: y) sub = 0 := by
  rw [index, h]
  rfl
def crlf : List UInt8 := [13, 10]
def crlf2 : List UInt8 := [13, 10, 13, 10]
theorem zff : ∀ (r : List UInt8) (rs : List (List UInt8)) (rest : List UInt8), No13 r → (∀ x ∈ rs, No13 x ∧ x ≠ []) → index (joinL r rs ++ (crlf2 ++ rest)) crlf2 = (joinL r rs).length
  | r, [], rest, hr, _ => by
    have h0 : index (crlf2 ++ rest) crlf2 = 0 := zdo _ _ _ (by simp [crlf2, List.isPrefixOf])
    have := zdr 13 [10, 13, 10] r (crlf2 ++ rest) hr (by show 0 ≤ index (crlf2 ++ rest) crlf2; omega)
    change index (r ++ (crlf2 ++ rest)) crlf2 = _ + index (crlf2 ++ rest) crlf2 at this
    rw [joinL, this, h0]
    simp
  | r, r' :: rs, rest, hr, hs => by
    have h1 := zff r' rs rest (hs r' List.mem_cons_self).1 fun x hx => hs x (List.mem_cons_of_mem _ hx)
    obtain ⟨c, t, hct⟩ := List.exists_cons_of_ne_nil (hs r' List.mem_cons_self).2
    have hc13 : c ≠ 13 := (hs r' List.mem_cons_self).1 c (by rw [hct]; exact List.mem_cons_self)
    have hhead : ∃ u, joinL r' rs ++ (crlf2 ++ rest) = c :: u := by
      cases rs with
      | nil => exact ⟨t ++ (crlf2 ++ rest), by rw [joinL, hct]; rfl⟩
      | cons a b => exact ⟨t ++ 13 :: 10 :: joinL a b ++ (crlf2 ++ rest), by rw [joinL, hct]; simp⟩
    obtain ⟨u, hu⟩ := hhead
    have h2 : index (13 :: 10 :: (joinL r' rs ++ (crlf2 ++ rest))) crlf2 = (joinL r' rs).length + 2 := by
      rw [index]
      have e1 : (crlf2.isPrefixOf (13 :: 10 :: (joinL r' rs ++ (crlf2 ++ rest)))) = false := by rw [hu]; simp [crlf2, List.isPrefixOf, Ne.symm hc13]
      rw [e1]
      simp only [Bool.false_eq_true, if_false]
      rw [index]
      have e2 : (crlf2.isPrefixOf (10 :: (joinL r' rs ++ (crlf2 ++ rest)))) = false := by simp [crlf2, List.isPrefixOf]
      rw [e2]
      simp only [Bool.false_eq_true, if_false]
      have a1 : (((joinL r' rs).length : Int) == -1) = false := beq_eq_false_iff_ne.2 (by omega)
      have a2 : (((joinL r' rs).length : Int) + 1 == -1) = false := beq_eq_false_iff_ne.2 (by omega)
      simp only [h1, a1, a2, Bool.false_eq_true, if_false]
      omega
    have := zdr 13 [10, 13, 10] r (13 :: 10 :: (joinL r' rs ++ (crlf2 ++ rest))) hr (by show 0 ≤ index _ crlf2; omega)
    change index (r ++ 13 :: 10 :: (joinL r' rs ++ (crlf2 ++ rest))) crlf2 = _ + index (13 :: 10 :: (joinL r' rs ++ (crlf2 ++ rest))) crlf2 at this
    rw [joinL, List.append_assoc, List.cons_append, List.cons_append, this, h2]
    simp
    omega
theorem zej (sub : List UInt8) : ∀ (l : List UInt8), l.length < sub.length → index l sub = -1
  | [], h => by
    cases sub with
    | nil => simp at h
    | cons => simp [index]
  | b :: l, h => by
    have ih := zej sub l (by simp at h; omega)
    have hp : sub.isPrefixOf (b :: l) = false := by
      rw [Bool.eq_false_iff]
      intro e
      have := (List.isPrefixOf_iff_prefix.1 e).length_le
      omega
    rw [index, hp, ih]
    simp
theorem zew : ∀ (r : List UInt8) (rs : List (List UInt8)), No13 r → (∀ x ∈ rs, No13 x) → splitK crlf 0 (count (joinL r rs) crlf) (joinL r rs) = r :: rs
  | r, [], hr, _ => by
    rw [joinL, show count r crlf = 0 from count_miss (index_none 13 [10] r hr)]
    rfl
  | r, r' :: rs, hr, hs => by
    have ih := zew r' rs (hs r' List.mem_cons_self) fun x hx => hs x (List.mem_cons_of_mem _ hx)
    have h0 : index (13 :: 10 :: joinL r' rs) crlf = 0 := zdo _ _ _ (by simp [crlf, List.isPrefixOf])
    have hi : index (joinL r (r' :: rs)) crlf = r.length := by
      have := zdr 13 [10] r (13 :: 10 :: joinL r' rs) hr (by show 0 ≤ index _ crlf; omega)
      change index (r ++ 13 :: 10 :: joinL r' rs) crlf = _ + index (13 :: 10 :: joinL r' rs) crlf at this
      rw [joinL, this, h0]
      simp
    rw [count_hit (by simp [crlf]) hi, Nat.add_comm, splitK, hi, if_neg (by simp)]
    have e1 : (joinL r (r' :: rs)).take ((r.length : Int).toNat + 0) = r := by rw [joinL]; simp
    have e2 : (joinL r (r' :: rs)).drop ((r.length : Int).toNat + crlf.length) = joinL r' rs := by
      rw [joinL, Int.toNat_natCast, ← List.drop_drop]
      simp [crlf]
    have e3 : (joinL r (r' :: rs)).drop (r.length + crlf.length) = joinL r' rs := by rw [← e2, Int.toNat_natCast]
    rw [e1, e2, e3, ih]
theorem rows_data (s : ByteArray) (r : List UInt8) (rs : List (List UInt8)) (hr : No13 r) (hs : ∀ x ∈ rs, No13 x) (h : s.data.toList = joinL r rs) :
    splitB ⟨#[13, 10]⟩ 0 (countB s ⟨#[13, 10]⟩) s = (r :: rs).map fun l => ⟨l.toArray⟩ := by
  have h1 : (splitB ⟨#[13, 10]⟩ 0 (countB s ⟨#[13, 10]⟩) s).map (·.data.toList) = r :: rs := by
    rw [splitB_data]
    show splitK crlf 0 (count s.data.toList crlf) s.data.toList = _
    rw [h]
    exact zew r rs hr hs
  have h2 := congrArg (List.map fun l : List UInt8 => (⟨l.toArray⟩ : ByteArray)) h1
  rw [List.map_map] at h2
  rw [← h2]
  conv => lhs; rw [← List.map_id (splitB ⟨#[13, 10]⟩ 0 (countB s ⟨#[13, 10]⟩) s)]
  exact List.map_congr_left fun x _ => (Lib.mk_data x).symm
def lowL (l : List UInt8) : List UInt8 := l.map (turnB 65 90)
def clenL : List UInt8 := [67, 111, 110, 116, 101, 110, 116, 45, 76, 101, 110, 103, 116, 104]
def tencL : List UInt8 := [84, 114, 97, 110, 115, 102, 101, 114, 45, 69, 110, 99, 111, 100, 105, 110, 103]
inductive RowV where
  | bad
  | len (n : Nat)
  | fld (n v : List UInt8)
def rowV (r : List UInt8) : RowV :=
  if (cut r [58]).2.2 = true ∧ nameV ⟨(cut r [58]).1.toArray⟩ = true ∧ (trimS (cut r [58]).2.1 blank).all textC = true ∧ lowL (cut r [58]).1 ≠ lowL tencL then
    (if lowL (cut r [58]).1 = lowL clenL then (if (numV ⟨(trimS (cut r [58]).2.1 blank).toArray⟩ 65536).2 = true then .len (numV ⟨(trimS (cut r [58]).2.1 blank).toArray⟩ 65536).1 else .bad)
    else .fld (cut r [58]).1 (trimS (cut r [58]).2.1 blank))
  else .bad
def foldV : List (List UInt8) → List (List UInt8 × List UInt8) → Nat → Bool → Option (List (List UInt8 × List UInt8) × Nat)
  | [], acc, n, _ => some (acc, n)
  | r :: rs, acc, n, had => match rowV r with
    | .bad => none
    | .len m => if had = true then none else foldV rs acc m true
    | .fld a b => foldV rs (acc ++ [(a, b)]) n had
end Go.Proofs.YtipfekjmcddelaaGreatDoor
namespace Go.Proofs.YtipfekjmcddelaaGreatDoor
open Go.Lib
theorem split_at1 (p : UInt8) (x y : List UInt8) (h : ∀ c ∈ x, c ≠ p) : splitK [p] 0 (count (x ++ p :: y) [p]) (x ++ p :: y) = x :: splitK [p] 0 (count y [p]) y := by
  have h0 : index (p :: y) [p] = 0 := zdo _ _ _ (by simp [List.isPrefixOf])
  have hi : index (x ++ p :: y) [p] = x.length := by
    rw [zdr p [] x (p :: y) h (by omega), h0]
    simp
  rw [count_hit (by simp) hi, Nat.add_comm, splitK, hi, if_neg (by simp)]
  have e1 : (x ++ p :: y).take ((x.length : Int).toNat + 0) = x := by simp
  have e3 : (x ++ p :: y).drop (x.length + [p].length) = y := by rw [← List.drop_drop]; simp
  rw [e1, Int.toNat_natCast, e3]
theorem split_no1 (p : UInt8) (x : List UInt8) (h : ∀ c ∈ x, c ≠ p) : splitK [p] 0 (count x [p]) x = [x] := by
  rw [show count x [p] = 0 from count_miss (index_none p [] x h)]
  rfl
theorem split_data1 (s : ByteArray) (p : UInt8) (L : List (List UInt8)) (h : splitK [p] 0 (count s.data.toList [p]) s.data.toList = L) : splitB ⟨#[p]⟩ 0 (countB s ⟨#[p]⟩) s = L.map fun l => ⟨l.toArray⟩ := by
  have h1 : (splitB ⟨#[p]⟩ 0 (countB s ⟨#[p]⟩) s).map (·.data.toList) = L := by
    rw [splitB_data]
    exact h
  have h2 := congrArg (List.map fun l : List UInt8 => (⟨l.toArray⟩ : ByteArray)) h1
  rw [List.map_map] at h2
  rw [← h2]
  conv => lhs; rw [← List.map_id (splitB ⟨#[p]⟩ 0 (countB s ⟨#[p]⟩) s)]
  exact List.map_congr_left fun x _ => (Lib.mk_data x).symm
def http11 : List UInt8 := [72, 84, 84, 80, 47, 49, 46, 49]
/-- Method and target? -/
def askedL (m t : List UInt8) : Bool := !m.isEmpty && (decide (m.length ≤ 16) && (m.all (fun c => decide (65 ≤ c.toNat) && decide (c.toNat ≤ 90)) && (!t.isEmpty && (decide (t.length ≤ 256) && t.all (fun c => decide (33 ≤ c.toNat) && decide (c.toNat ≤ 126))))))
theorem zdv {m t : List UInt8} (h : askedL m t = true) : (∀ c ∈ m, c ≠ 32 ∧ c ≠ 13) ∧ (∀ c ∈ t, c ≠ 32 ∧ c ≠ 13) ∧ m.length ≤ 16 ∧ t.length ≤ 256 := by
  unfold askedL at h
  simp only [Bool.and_eq_true, List.all_eq_true, decide_eq_true_eq] at h
  obtain ⟨_, h1, h2, _, h3, h4⟩ := h
  exact ⟨fun c hc => by
    have := h2 c hc
    exact ⟨fun e => by subst e; revert this; decide, fun e => by subst e; revert this; decide⟩, fun c hc => by
    have := h4 c hc
    exact ⟨fun e => by subst e; revert this; decide, fun e => by subst e; revert this; decide⟩, h1, h3⟩
/-- A request's first row. -/
def reqL (m t : List UInt8) : List UInt8 := m ++ 32 :: (t ++ 32 :: http11)
theorem req_split {m t : List UInt8} (h : askedL m t = true) : splitK [32] 0 (count (reqL m t) [32]) (reqL m t) = [m, t, http11] := by
  obtain ⟨h1, h2, _⟩ := zdv h
  unfold reqL
  rw [split_at1 32 m _ fun c hc => (h1 c hc).1, split_at1 32 t _ fun c hc => (h2 c hc).1, split_no1 32 http11 (by decide)]
theorem req_no13 {m t : List UInt8} (h : askedL m t = true) : No13 (reqL m t) := by
  obtain ⟨h1, h2, _⟩ := zdv h
  intro c hc
  unfold reqL at hc
  rcases List.mem_append.1 hc with hc | hc
  · exact (h1 c hc).2
  · rcases List.mem_cons.1 hc with rfl | hc
    · decide
    · rcases List.mem_append.1 hc with hc | hc
      · exact (h2 c hc).2
      · rcases List.mem_cons.1 hc with rfl | hc
        · decide
        · exact (show ∀ c ∈ http11, c ≠ 13 by decide) c hc
end Go.Proofs.YtipfekjmcddelaaGreatDoor
