/- Conditions on tags: plain laws over lists of bytes. -/
import Derived.Test.YtpedfpeokedelaaDoorTp
import Derived.Lib.SplitLaws
namespace Go.Proofs.YtpedfpeokedelaaDoor
open Go.Lib
def blank : List UInt8 := [32, 9]
/-- A tag's text. -/
def tagT (n : Nat) : List UInt8 := 34 :: (decDigits n ++ [34])
/-- A tag's number; 0: it is none. -/
def tagL (l : List UInt8) : Nat := if 3 ≤ l.length ∧ l[0]? = some 34 ∧ l[l.length - 1]? = some 34 then (numV ⟨((l.drop 1).take (l.length - 2)).toArray⟩ most).1 else 0
/-- A text cut at every comma. -/
def spl (cur : List UInt8) : List UInt8 → List (List UInt8)
  | [] => [cur]
  | c :: l => if c = 44 then cur :: spl [] l else spl (cur ++ [c]) l
def tagsL : List (List UInt8) → Option (List Int)
  | [] => some []
  | p :: ps => if tagL (trimS p blank) = 0 then none else (tagsL ps).map (((tagL (trimS p blank) : Nat) : Int) :: ·)
def condL (l : List UInt8) : Option (List Int × Bool) := if trimS l blank = [42] then some ([], true) else (tagsL (spl [] l)).map (·, false)
/-- Does a condition name a tag? -/
def hasL (l : List UInt8) (tag : Int) : Option Bool := (condL l).map fun x => decide (tag ≠ 0) && (x.2 || x.1.contains tag)
def holdsL (a b : List UInt8) (tag : Int) : Option Bool :=
  match (if a = [] then some true else hasL a tag), (if b = [] then some false else hasL b tag) with
  | some x, some y => some (x && !y)
  | _, _ => none
theorem tagL_le (l : List UInt8) : tagL l ≤ most := by
  unfold tagL
  split
  · rcases numV_o ⟨((l.drop 1).take (l.length - 2)).toArray⟩ most (by unfold most; omega) with ⟨n, h, _, e⟩ | ⟨_, e⟩
    · rw [e]; exact h
    · rw [e]; exact Nat.zero_le _
  · exact Nat.zero_le _
theorem spl_ne (cur l : List UInt8) : ∃ h t, spl cur l = h :: t := by
  induction l generalizing cur with
  | nil => exact ⟨_, _, rfl⟩
  | cons c l ih =>
    unfold spl
    split
    · exact ⟨_, _, rfl⟩
    · exact ih _
theorem spl_cur (l : List UInt8) : ∀ (cur : List UInt8) (h : List UInt8) (t : List (List UInt8)), spl [] l = h :: t → spl cur l = (cur ++ h) :: t := by
  induction l with
  | nil =>
    intro cur h t e
    simp only [spl, List.cons.injEq] at e ⊢
    obtain ⟨rfl, rfl⟩ := e
    simp
  | cons c l ih =>
    intro cur h t e
    unfold spl at e ⊢
    split
    · rename_i hc
      rw [if_pos hc] at e
      obtain ⟨rfl, rfl⟩ := List.cons.inj e
      simp
    · rename_i hc
      rw [if_neg hc] at e
      obtain ⟨h', t', e'⟩ := spl_ne [] l
      have e1 := ih ([] ++ [c]) h' t' e'
      rw [e1] at e
      obtain ⟨rfl, rfl⟩ := List.cons.inj e
      rw [ih (cur ++ [c]) h' t' e']
      simp
theorem spl_none (x : List UInt8) : ∀ (cur : List UInt8), (∀ c ∈ x, c ≠ 44) → spl cur x = [cur ++ x] := by
  induction x with
  | nil => intro cur _; simp [spl]
  | cons c x ih =>
    intro cur h
    rw [spl, if_neg (h c List.mem_cons_self), ih _ fun z hz => h z (List.mem_cons_of_mem _ hz)]
    simp
theorem spl_at (x y : List UInt8) : ∀ (cur : List UInt8), (∀ c ∈ x, c ≠ 44) → spl cur (x ++ 44 :: y) = (cur ++ x) :: spl [] y := by
  induction x with
  | nil => intro cur _; simp [spl]
  | cons c x ih =>
    intro cur h
    rw [List.cons_append]
    rw [spl, if_neg (h c List.mem_cons_self), ih _ fun z hz => h z (List.mem_cons_of_mem _ hz)]
    simp
theorem index_comma (x y : List UInt8) (hx : ∀ c ∈ x, c ≠ 44) : index (x ++ 44 :: y) [44] = x.length := by
  rw [index_one]
  induction x with
  | nil => rfl
  | cons c x ih =>
    have := ih fun z hz => hx z (List.mem_cons_of_mem _ hz)
    have hne := hx c List.mem_cons_self
    rw [List.cons_append, indexByte]
    simp only [this]
    simp [hne]
theorem index_no (x : List UInt8) (hx : ∀ c ∈ x, c ≠ 44) : index x [44] = -1 := by
  rw [index_one]
  induction x with
  | nil => rfl
  | cons c x ih =>
    have := ih fun z hz => hx z (List.mem_cons_of_mem _ hz)
    have hne := hx c List.mem_cons_self
    rw [indexByte]
    simp only [this]
    simp [hne]
theorem comma_split (l : List UInt8) : (∃ x y, l = x ++ 44 :: y ∧ (∀ c ∈ x, c ≠ 44)) ∨ (∀ c ∈ l, c ≠ 44) := by
  by_cases h : (44 : UInt8) ∈ l
  · left
    obtain ⟨x, y, rfl, hx⟩ := List.eq_append_cons_of_mem h
    exact ⟨x, y, rfl, fun c hc he => hx (he ▸ hc)⟩
  · exact .inr fun c hc he => h (he ▸ hc)
theorem split_spl : ∀ (n : Nat) (l : List UInt8), l.length ≤ n → splitK [44] 0 (count l [44]) l = spl [] l := by
  intro n
  induction n with
  | zero =>
    intro l hl
    obtain rfl := List.eq_nil_of_length_eq_zero (Nat.le_zero.1 hl)
    rfl
  | succ n ih =>
    intro l hl
    rcases comma_split l with ⟨x, y, rfl, hx⟩ | hx
    · have hi := index_comma x y hx
      rw [count_hit (by simp) hi, Nat.add_comm, splitK, hi, if_neg (by simp), spl_at _ _ _ hx]
      simp only [Nat.add_zero, Int.toNat_natCast, List.length_cons, List.length_nil, Nat.zero_add, List.take_left, List.nil_append]
      rw [show (x ++ 44 :: y).drop (x.length + 1) = y by rw [← List.drop_drop]; simp, ih y (by simp at hl; omega)]
    · rw [count_miss (index_no _ hx), spl_none _ _ hx]
      rfl
theorem pieces_eq (s : ByteArray) : (splitB ⟨#[44]⟩ 0 (countB s ⟨#[44]⟩) s).map (·.data.toList) = spl [] s.data.toList := by
  rw [splitB_data]
  exact split_spl _ _ (Nat.le_refl _)
theorem spl_len (l : List UInt8) : ∀ cur, (spl cur l).length ≤ l.length + 1 := by
  induction l with
  | nil => intro cur; simp [spl]
  | cons c l ih =>
    intro cur
    unfold spl
    split
    · have := ih []; simp; omega
    · have := ih (cur ++ [c]); simp; omega
theorem tagsL_len : ∀ (ps : List (List UInt8)) (t : List Int), tagsL ps = some t → t.length = ps.length
  | [], t, h => by simp only [tagsL, Option.some.injEq] at h; subst h; rfl
  | p :: ps, t, h => by
    unfold tagsL at h
    split at h
    · cases h
    · obtain ⟨t', h', rfl⟩ := Option.map_eq_some_iff.1 h
      simp [tagsL_len ps t' h']
end Go.Proofs.YtpedfpeokedelaaDoor
namespace Go.Proofs.YtpedfpeokedelaaDoor
open Go.Lib
theorem blank_yes {c : UInt8} : blank.contains c = true ↔ c = 32 ∨ c = 9 := by
  simp [blank]
theorem trim_cons {c : UInt8} (h : blank.contains c = true) (l : List UInt8) : trimS (c :: l) blank = trimS l blank := by
  unfold trimS trimRightS trimLeftS
  rw [List.reverse_cons, List.dropWhile_append]
  split
  · rename_i he
    have : (l.reverse.dropWhile (blank.contains ·)) = [] := List.isEmpty_iff.1 he
    rw [this]
    rw [List.dropWhile_cons, if_pos h]
    rfl
  · rw [List.reverse_append]
    simp only [List.reverse_cons, List.reverse_nil, List.nil_append, List.singleton_append]
    rw [List.dropWhile_cons, if_pos h]
theorem trim_snoc {c : UInt8} (h : blank.contains c = true) (l : List UInt8) : trimS (l ++ [c]) blank = trimS l blank := by
  unfold trimS trimRightS
  rw [List.reverse_append]
  simp only [List.reverse_cons, List.reverse_nil, List.nil_append, List.singleton_append]
  rw [List.dropWhile_cons, if_pos h]
theorem dropW_id {p : UInt8 → Bool} {l : List UInt8} (h : ∀ c, l.head? = some c → p c = false) : l.dropWhile p = l := by
  cases l with
  | nil => rfl
  | cons c l => rw [List.dropWhile_cons, if_neg (by rw [h c rfl]; simp)]
theorem trim_id {l : List UInt8} (h1 : ∀ c, l.head? = some c → blank.contains c = false) (h2 : ∀ c, l.getLast? = some c → blank.contains c = false) : trimS l blank = l := by
  unfold trimS trimRightS trimLeftS
  rw [dropW_id (l := l.reverse) (fun c hc => h2 c (by rw [← hc, List.head?_reverse])), List.reverse_reverse, dropW_id h1]
theorem trim_head {c : UInt8} (h : blank.contains c = false) (l : List UInt8) : trimS (c :: l) blank = c :: trimRightS l blank := by
  unfold trimS trimRightS trimLeftS
  rw [List.reverse_cons, List.dropWhile_append]
  split
  · rename_i he
    have : (l.reverse.dropWhile (blank.contains ·)) = [] := List.isEmpty_iff.1 he
    rw [this]
    rw [List.dropWhile_cons, if_neg (by rw [h]; simp)]
    simp only [List.reverse_cons, List.reverse_nil, List.nil_append]
    rw [List.dropWhile_cons, if_neg (by rw [h]; simp)]
  · rw [List.reverse_append]
    simp only [List.reverse_cons, List.reverse_nil, List.nil_append, List.singleton_append]
    rw [List.dropWhile_cons, if_neg (by rw [h]; simp)]
theorem mk_toList (l : List UInt8) : (⟨l.toArray⟩ : ByteArray).data.toList = l := rfl
theorem ext_mk (s : ByteArray) (i j : Nat) : s.extract i j = ⟨((s.data.toList.drop i).take (j - i)).toArray⟩ := by
  rw [← Lib.mk_data (s.extract i j)]
  congr 2
  simp
theorem holdsL_none (a : List UInt8) (tag : Int) : holdsL a [] tag = if a = [] then some true else hasL a tag := by
  unfold holdsL
  rw [if_pos rfl]
  by_cases h : a = []
  · rw [if_pos h]; rfl
  · rw [if_neg h]
    cases hasL a tag with
    | none => rfl
    | some x => simp
end Go.Proofs.YtpedfpeokedelaaDoor
namespace Go.Proofs.YtpedfpeokedelaaDoor
open Go.Lib
theorem spl_mem_len (l : List UInt8) : ∀ (cur p : List UInt8), p ∈ spl cur l → p.length ≤ cur.length + l.length := by
  induction l with
  | nil =>
    intro cur p h
    simp only [spl, List.mem_singleton] at h
    subst h
    simp
  | cons c l ih =>
    intro cur p h
    unfold spl at h
    split at h
    · rcases List.mem_cons.1 h with rfl | h
      · simp
      · have := ih _ _ h; simp at this ⊢; omega
    · have := ih _ _ h; simp at this ⊢; omega
end Go.Proofs.YtpedfpeokedelaaDoor
namespace Go.Proofs.YtpedfpeokedelaaDoor
open Go.Lib
theorem tagL_tagT (n : Nat) (h : n ≤ most) : tagL (tagT n) = n := by
  have hl : (tagT n).length = (decDigits n).length + 2 := by simp [tagT]
  have hne : 0 < (decDigits n).length := List.length_pos_iff.2 (dec_ne n)
  unfold tagL
  rw [if_pos ⟨by omega, rfl, by rw [hl]; simp [tagT]⟩, hl]
  have e : ((tagT n).drop 1).take ((decDigits n).length + 2 - 2) = decDigits n := by simp [tagT]
  rw [e, numV_dec n most (by unfold most; omega), if_pos h]
theorem trim_tagT (n : Nat) : trimS (tagT n) blank = tagT n := by
  refine trim_id ?_ ?_
  · intro c h
    simp only [tagT, List.head?_cons, Option.some.injEq] at h
    subst h
    rfl
  · intro c h
    rw [show tagT n = (34 :: decDigits n) ++ [34] from by simp [tagT], List.getLast?_concat, Option.some.injEq] at h
    subst h
    rfl
theorem tagT_comma (n : Nat) : ∀ c ∈ tagT n, c ≠ 44 := by
  intro c h
  simp only [tagT, List.mem_cons, List.mem_append, List.not_mem_nil, or_false] at h
  rcases h with rfl | h | rfl
  · decide
  · have := dec_dig n c h
    unfold isDig at this
    intro e
    subst e
    exact absurd this (by decide)
  · decide
theorem spl_app (x y : List UInt8) : ∀ cur, spl cur (x ++ 44 :: y) = spl cur x ++ spl [] y := by
  induction x with
  | nil => intro cur; simp [spl]
  | cons c x ih =>
    intro cur
    rw [List.cons_append, spl, spl]
    split
    · rw [ih]; rfl
    · rw [ih]
theorem tagsL_app (x y : List (List UInt8)) (a b : List Int) (hx : tagsL x = some a) (hy : tagsL y = some b) : tagsL (x ++ y) = some (a ++ b) := by
  induction x generalizing a with
  | nil =>
    simp only [tagsL, Option.some.injEq] at hx
    subst hx
    simpa using hy
  | cons p x ih =>
    unfold tagsL at hx
    split at hx
    · cases hx
    · rename_i h0
      obtain ⟨a', ha', rfl⟩ := Option.map_eq_some_iff.1 hx
      rw [List.cons_append, tagsL, if_neg h0, ih a' ha']
      rfl
theorem tagsL_blank (l : List UInt8) : tagsL (spl [] (32 :: l)) = tagsL (spl [] l) := by
  obtain ⟨h, t, e⟩ := spl_ne [] l
  rw [e, spl, if_neg (by decide), spl_cur l _ h t e]
  simp only [List.nil_append, List.singleton_append]
  rw [tagsL, tagsL, trim_cons (by decide)]
theorem tagsL_one (n : Nat) (h1 : 1 ≤ n) (h : n ≤ most) : tagsL [tagT n] = some [(n : Int)] := by
  rw [tagsL, trim_tagT, tagL_tagT n h, if_neg (by omega)]
  rfl
theorem tagsL_tab (n : Nat) (h1 : 1 ≤ n) (h : n ≤ most) : tagsL [tagT n ++ [9]] = some [(n : Int)] := by
  rw [tagsL, trim_snoc (by decide), trim_tagT, tagL_tagT n h, if_neg (by omega)]
  rfl
theorem condL_quote (l : List UInt8) (t : List Int) (hh : l.head? = some 34) (ht : tagsL (spl [] l) = some t) : condL l = some (t, false) := by
  unfold condL
  cases l with
  | nil => cases hh
  | cons c l =>
    obtain rfl : c = 34 := Option.some.inj hh
    rw [trim_head (by decide), if_neg (by simp), ht]
    rfl
/-- What is known of the two texts of tags. -/
structure Tags (ts : List Int) (a b : List UInt8) : Prop where
  ha : a.head? = some 34
  hb : b.head? = some 34
  ta : ∃ l, tagsL (spl [] a) = some l ∧ ∀ x, x ∈ l ↔ x ∈ ts
  tb : ∃ l, tagsL (spl [] b) = some l ∧ ∀ x, x ∈ l ↔ x ∈ ts
theorem Tags.one (n : Nat) (h1 : 1 ≤ n) (h : n ≤ most) : Tags [(n : Int)] (tagT n) (tagT n ++ 44 :: tagT n) := by
  have h0 : spl [] (tagT n) = [tagT n] := by rw [spl_none _ _ (tagT_comma n)]; rfl
  refine ⟨rfl, rfl, ⟨_, by rw [h0]; exact tagsL_one n h1 h, fun x => Iff.rfl⟩, ⟨_, by rw [spl_app, h0]; exact tagsL_app _ _ _ _ (tagsL_one n h1 h) (tagsL_one n h1 h), ?_⟩⟩
  intro x
  simp
theorem Tags.more {ts : List Int} {a b : List UInt8} (T : Tags ts a b) (n : Nat) (h1 : 1 ≤ n) (h : n ≤ most) : Tags (ts ++ [(n : Int)]) (a ++ 44 :: tagT n) (tagT n ++ 44 :: (tagT n ++ [9]) ++ 44 :: 32 :: b) := by
  have h0 : spl [] (tagT n) = [tagT n] := by rw [spl_none _ _ (tagT_comma n)]; rfl
  have h9 : spl [] (tagT n ++ [9]) = [tagT n ++ [9]] := by
    rw [spl_none _ _ (fun c hc => by
      rcases List.mem_append.1 hc with hc | hc
      · exact tagT_comma n c hc
      · obtain rfl := List.mem_singleton.1 hc; decide)]
    rfl
  obtain ⟨la, ea, ma⟩ := T.ta
  obtain ⟨lb, eb, mb⟩ := T.tb
  refine ⟨?_, rfl, ⟨_, by rw [spl_app, h0]; exact tagsL_app _ _ _ _ ea (tagsL_one n h1 h), ?_⟩, ⟨_, by
    rw [spl_app, spl_app, h0, h9]
    exact tagsL_app _ _ _ _ (tagsL_app _ _ _ _ (tagsL_one n h1 h) (tagsL_tab n h1 h)) ((tagsL_blank b).trans eb), ?_⟩⟩
  · cases a with
    | nil => cases T.ha
    | cons c a => exact T.ha
  · intro x
    simp [ma]
  · intro x
    simp only [List.mem_append, List.mem_singleton, mb]
    constructor
    · rintro ((h | h) | h)
      · exact .inr h
      · exact .inr h
      · exact .inl h
    · rintro (h | h)
      · exact .inr h
      · exact .inl (.inl h)
theorem Tags.has {ts : List Int} {a b : List UInt8} (T : Tags ts a b) (t : Int) (ht : t ≠ 0) : hasL a t = some (ts.contains t) ∧ hasL b t = some (ts.contains t) := by
  obtain ⟨la, ea, ma⟩ := T.ta
  obtain ⟨lb, eb, mb⟩ := T.tb
  unfold hasL
  rw [condL_quote a la T.ha ea, condL_quote b lb T.hb eb]
  have e : ∀ l : List Int, (∀ x, x ∈ l ↔ x ∈ ts) → l.contains t = ts.contains t := fun l m => by
    rw [Bool.eq_iff_iff, List.contains_iff_mem, List.contains_iff_mem]
    exact m t
  simp only [Option.map_some, Bool.false_or, decide_eq_true ht, Bool.true_and]
  exact ⟨congrArg some (e la ma), congrArg some (e lb mb)⟩
end Go.Proofs.YtpedfpeokedelaaDoor
