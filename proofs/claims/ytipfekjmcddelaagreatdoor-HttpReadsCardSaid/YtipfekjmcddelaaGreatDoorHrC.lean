/- HttpReads, the plain law, part C. -/
import Derived.Test.YtipfekjmcddelaaGreatDoorHrA
namespace Go.Proofs.YtipfekjmcddelaaGreatDoor.PureHttpReads
open Go.RowKit Go.Lib Go.Proofs.YtipfekjmcddelaaGreatDoor.XHttpReads Go.Proofs.YtipfekjmcddelaaGreatDoorW.PrintWords Go.Proofs.YtipfekjmcddelaaGreatDoorW.PrintLast Go.Proofs.YtipfekjmcddelaaGreatDoorW.PrintMore
set_option maxRecDepth 100000
set_option linter.unusedSimpArgs false
def resH (rows : List (List UInt8)) (cur R : List UInt8) : Option (List (List UInt8) × List UInt8) :=
  if cur = [] ∧ rows ≠ [] ∧ crlf.isPrefixOf R = true then some (rows, R.drop 2) else (hd R).map fun x => (rows ++ appH cur x.1, x.2)
def outH (n : Nat) (short : Bool) : Option (List (List UInt8) × List UInt8) → List ByteArray × Int × Int
  | some x => (x.1.map fun (l : List UInt8) => (⟨l.toArray⟩ : ByteArray), ((n - x.2.length : Nat) : Int), 0)
  | none => ([], 0, if short = true then 91 else 80)
theorem appH_nil (x : List (List UInt8)) : appH [] x = x := by cases x <;> rfl
theorem appH_snoc (cur : List UInt8) (c : UInt8) (x : List (List UInt8)) : appH cur (consH c x) = appH (cur ++ [c]) x := by
  cases x with
  | nil => rfl
  | cons h t => simp [appH, consH]
theorem resH_short (rows : List (List UInt8)) (cur R : List UInt8) (h : R.length ≤ 1) : resH rows cur R = none := by
  unfold resH
  rw [if_neg]
  · match R, h with
    | [], _ => rfl
    | [c], _ => rfl
  · rintro ⟨_, _, h3⟩
    obtain ⟨q, rfl⟩ := (crlf_pre R).1 h3
    simp at h
theorem resH_other (rows : List (List UInt8)) (cur : List UInt8) (c d : UInt8) (r : List UInt8) (h : ¬ (c = 13 ∧ d = 10)) : resH rows cur (c :: d :: r) = resH rows (cur ++ [c]) (d :: r) := by
  unfold resH
  rw [if_neg, if_neg (by simp), hd, if_neg h, Option.map_map]
  · congr 1
    funext x
    simp only [Function.comp, appH_snoc]
  · rintro ⟨_, _, h3⟩
    obtain ⟨q, hq⟩ := (crlf_pre _).1 h3
    injection hq with a b
    injection b with b _
    exact h ⟨a, b⟩
theorem resH_end (rows : List (List UInt8)) (hr : rows ≠ []) (r : List UInt8) : resH rows [] (13 :: 10 :: r) = some (rows, r) := if_pos ⟨rfl, hr, by simp [crlf, List.isPrefixOf]⟩
theorem resH_row (rows : List (List UInt8)) (cur r : List UInt8) (h : ¬ (cur = [] ∧ rows ≠ [])) : resH rows cur (13 :: 10 :: r) = resH (rows ++ [cur]) [] r := by
  unfold resH
  rw [if_neg (fun z => h ⟨z.1, z.2.1⟩), hd, if_pos ⟨rfl, rfl⟩]
  by_cases hp : crlf.isPrefixOf r = true
  · rw [if_pos hp, if_pos ⟨rfl, by simp, hp⟩]
    simp [appH]
  · rw [if_neg hp, if_neg (fun z => hp z.2.2), Option.map_map]
    congr 1
    funext x
    have h2 : appH cur ([] :: x.1) = cur :: x.1 := by rw [appH, List.append_nil]
    simp only [Function.comp, h2, appH_nil, List.append_assoc, List.singleton_append]
theorem refhead_l (s : ByteArray) (hs : s.size ≤ 140737488351232) (N : Nat) (hN : N = min s.size 8192) : ∀ (j k i a : Nat) (rows : List (List UInt8)), i + j = N → a ≤ i → rows.length ≤ i → 3 * j + 3 ≤ k →
    calepinref08_Head.l0 k s (rows.map fun (l : List UInt8) => (⟨l.toArray⟩ : ByteArray)) (a : Int) (i : Int) = some (outH N (decide (s.size < 8192)) (resH rows (((s.data.toList.take N).drop a).take (i - a)) ((s.data.toList.take N).drop i))) := by
  have hsz := size_eq s
  have hl' : (s.data.toList.take N).length = N := by rw [List.length_take]; omega
  intro j
  induction j using Nat.strongRecOn with
  | _ j ih =>
    intro k i a rows hi ha hr hk
    have hwi : Unit → wrap64 ((i : Int) + 1) = ((i + 1 : Nat) : Int) := fun _ => wrapE _ (i + 1) (by omega) (by omega)
    have hwi2 : Unit → wrap64 ((i : Int) + 2) = ((i + 2 : Nat) : Int) := fun _ => wrapE _ (i + 2) (by omega) (by omega)
    have hwi3 : Unit → wrap64 (((i + 1 : Nat) : Int) + 1) = ((i + 2 : Nat) : Int) := fun _ => wrapE _ (i + 2) (by omega) (by omega)
    by_cases hA : i + 1 < N
    · obtain ⟨k, rfl⟩ : ∃ k', k = k' + 6 := ⟨k - 6, by omega⟩
      have hb1 := bt_get s i (by omega)
      have hb2 := bt_get s (i + 1) (by omega)
      have hd1 : (s.data.toList.take N).drop i = s.data.toList[i] :: s.data.toList[i + 1] :: (s.data.toList.take N).drop (i + 2) := by
        rw [List.drop_eq_getElem_cons (by omega), List.drop_eq_getElem_cons (by omega), List.getElem_take, List.getElem_take]
      have hd2 : (s.data.toList.take N).drop (i + 1) = s.data.toList[i + 1] :: (s.data.toList.take N).drop (i + 2) := by
        rw [List.drop_eq_getElem_cons (by omega), List.getElem_take]
      have hcur : ((s.data.toList.take N).drop a).take (i + 1 - a) = ((s.data.toList.take N).drop a).take (i - a) ++ [s.data.toList[i]] := by
        rw [show i + 1 - a = (i - a) + 1 by omega, List.take_succ_eq_append_getElem (by rw [List.length_drop]; omega), List.getElem_drop, List.getElem_take]
        simp only [show a + (i - a) = i by omega]
      generalize s.data.toList[i] = c at hb1 hd1 hcur
      generalize s.data.toList[i + 1] = d at hb2 hd1 hd2
      have hskip : ¬ (c = 13 ∧ d = 10) → calepinref08_Head.l0 (k + 3) s (rows.map fun (l : List UInt8) => (⟨l.toArray⟩ : ByteArray)) (a : Int) ((i + 1 : Nat) : Int) = some (outH N (decide (s.size < 8192)) (resH rows (((s.data.toList.take N).drop a).take (i - a)) ((s.data.toList.take N).drop i))) := by
        intro h
        rw [ih (j - 1) (by omega) (k + 3) (i + 1) a rows (by omega) (by omega) (by omega) (by omega), hd1, resH_other _ _ _ _ _ h, hcur, hd2]
      rw [calepinref08_Head.l0, hwi (), if_pos (by omega), decide_eq_true (by omega : ((i + 1 : Nat) : Int) < 8192), calepinref08_Head.j1, if_pos rfl, if_pos (by omega), if_pos (by omega), hb1, hwi ()]
      by_cases hc : c = 13
      · subst hc
        rw [if_pos (by rfl), if_pos (by omega), if_pos (by omega), hb2]
        by_cases hd : d = 10
        · subst hd
          rw [if_pos (by rfl), decide_eq_false (by omega : ¬ (i : Int) < (a : Int)), calepinref08_Head.j2, if_neg (by simp), if_pos (by omega), if_pos (by omega), if_pos (by omega), if_pos (by rw [List.length_map]; omega)]
          have hx : s.extract ((a : Int)).toNat ((i : Int)).toNat = ⟨(((s.data.toList.take N).drop a).take (i - a)).toArray⟩ := by
            rw [ext_mk, Int.toNat_natCast, Int.toNat_natCast, List.drop_take, List.take_take, Nat.min_eq_left (by omega)]
          rw [hx]
          simp only [Option.bind_some]
          have hcl : (((s.data.toList.take N).drop a).take (i - a)).length = i - a := by rw [List.length_take, List.length_drop]; omega
          generalize ((s.data.toList.take N).drop a).take (i - a) = cur at hcl ⊢
          have hlen : (((rows.map fun (l : List UInt8) => (⟨l.toArray⟩ : ByteArray)) ++ [(⟨cur.toArray⟩ : ByteArray)]).length : Int) = ((rows.length + 1 : Nat) : Int) := by simp
          have hw : Unit → wrap64 (((rows.length + 1 : Nat) : Int) - 1) = (rows.length : Int) := fun _ => wrapE _ rows.length (by omega) (by omega)
          have hrd : rdOf ByteArray.empty ((rows.map fun (l : List UInt8) => (⟨l.toArray⟩ : ByteArray)) ++ [(⟨cur.toArray⟩ : ByteArray)]) (rows.length : Int) = ⟨cur.toArray⟩ := by simp [rdOf]
          have hz : (⟨cur.toArray⟩ : ByteArray).size = i - a := by rw [size_eq, mk_l, hcl]
          have hstep : ¬ (cur = [] ∧ rows ≠ []) → calepinref08_Head.l0 (k + 3) s ((rows.map fun (l : List UInt8) => (⟨l.toArray⟩ : ByteArray)) ++ [(⟨cur.toArray⟩ : ByteArray)]) (wrap64 ((i : Int) + 2)) ((i + 1 : Nat) : Int) = some (outH N (decide (s.size < 8192)) (resH rows cur ((s.data.toList.take N).drop i))) := by
            intro h
            rw [hd1, resH_row _ _ _ h, hwi2 (), calepinref08_Head.l0, hwi3 ()]
            have hmap : (rows.map fun (l : List UInt8) => (⟨l.toArray⟩ : ByteArray)) ++ [(⟨cur.toArray⟩ : ByteArray)] = (rows ++ [cur]).map fun (l : List UInt8) => (⟨l.toArray⟩ : ByteArray) := by simp
            by_cases hB : i + 2 < N
            · rw [if_pos (by omega), decide_eq_true (by omega : ((i + 2 : Nat) : Int) < 8192), calepinref08_Head.j1, if_pos rfl, if_pos (by omega), if_pos (by omega), hb2, if_neg (by decide), calepinref08_Head.j2, if_pos rfl, hwi3 (), hmap,
                ih (j - 2) (by omega) k (i + 2) (i + 2) (rows ++ [cur]) (by omega) (by omega) (by rw [List.length_append]; simp; omega) (by omega), Nat.sub_self, List.take_zero]
            · rw [resH_short _ _ _ (by rw [List.length_drop]; omega)]
              by_cases hs2 : i + 2 < s.size
              · rw [if_pos (by omega), decide_eq_false (by omega : ¬ ((i + 2 : Nat) : Int) < 8192), calepinref08_Head.j1, if_neg (by simp), if_neg (by omega), outH, decide_eq_false (by omega : ¬ s.size < 8192), if_neg (by simp)]
              · rw [if_neg (by omega), calepinref08_Head.j1, if_neg (by simp)]
                by_cases h8 : s.size < 8192
                · rw [if_pos (by omega), outH, decide_eq_true h8]
                  rfl
                · rw [if_neg (by omega), outH, decide_eq_false h8]
                  rfl
          rw [hlen, hw ()]
          by_cases hrows : rows = []
          · rw [if_neg (by subst hrows; simp)]
            rw [hwi ()]
            exact hstep (fun z => z.2 hrows)
          · have := List.length_pos_iff.2 hrows
            rw [if_pos (by omega), if_pos (by omega), if_pos (by omega), hrd, hz]
            by_cases hcz : cur = []
            · have hcz2 : i - a = 0 := by rw [← hcl, hcz]; rfl
              rw [if_pos (by omega), if_pos (by omega), hd1, hcz, resH_end _ hrows, hwi2 (), Int.toNat_natCast, outH]
              simp only
              rw [show ((rows.map fun (l : List UInt8) => (⟨l.toArray⟩ : ByteArray)) ++ [(⟨([] : List UInt8).toArray⟩ : ByteArray)]).take rows.length = rows.map fun (l : List UInt8) => (⟨l.toArray⟩ : ByteArray) by simp, show N - ((s.data.toList.take N).drop (i + 2)).length = i + 2 by rw [List.length_drop]; omega]
            · have : 0 < cur.length := List.length_pos_iff.2 hcz
              rw [if_neg (by omega)]
              rw [hwi ()]
              exact hstep (fun z => hcz z.1)
        · rw [if_neg (fun h => hd (UInt8.toNat_inj.1 (by show _ = 10; omega))), calepinref08_Head.j2, if_pos rfl, hwi ()]
          exact hskip (fun z => hd z.2)
      · rw [if_neg (fun h => hc (UInt8.toNat_inj.1 (by show _ = 13; omega))), calepinref08_Head.j2, if_pos rfl, hwi ()]
        exact hskip (fun z => hc z.1)
    · obtain ⟨k, rfl⟩ : ∃ k', k = k' + 2 := ⟨k - 2, by omega⟩
      rw [resH_short _ _ _ (by rw [List.length_drop]; omega), calepinref08_Head.l0, hwi ()]
      by_cases hs2 : i + 1 < s.size
      · rw [if_pos (by omega), decide_eq_false (by omega : ¬ ((i + 1 : Nat) : Int) < 8192), calepinref08_Head.j1, if_neg (by simp), if_neg (by omega), outH, decide_eq_false (by omega : ¬ s.size < 8192), if_neg (by simp)]
      · rw [if_neg (by omega), calepinref08_Head.j1, if_neg (by simp)]
        by_cases h8 : s.size < 8192
        · rw [if_pos (by omega), outH, decide_eq_true h8]
          rfl
        · rw [if_neg (by omega), outH, decide_eq_false h8]
          rfl
theorem refhead (s : ByteArray) (hs : s.size ≤ 140737488351232) (k : Nat) (hk : 24600 ≤ k) :
    calepinref08_Head.f k s = some (outH (min s.size 8192) (decide (s.size < 8192)) (hd (s.data.toList.take (min s.size 8192)))) := by
  have h := refhead_l s hs (min s.size 8192) rfl (min s.size 8192) k 0 0 [] (by omega) (by omega) (by simp) (by omega)
  have e : resH [] [] (s.data.toList.take (min s.size 8192)) = hd (s.data.toList.take (min s.size 8192)) := by
    unfold resH
    rw [if_neg (fun z => z.2.1 rfl)]
    cases hd (s.data.toList.take (min s.size 8192)) with
    | none => rfl
    | some x => simp [appH_nil]
  rw [List.drop_zero, Nat.sub_zero, List.take_zero, e] at h
  exact h
end Go.Proofs.YtipfekjmcddelaaGreatDoor.PureHttpReads
