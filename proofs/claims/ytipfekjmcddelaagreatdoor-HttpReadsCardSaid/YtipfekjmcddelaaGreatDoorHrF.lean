/- HttpReads, the plain law, part F. -/
import Derived.Test.YtipfekjmcddelaaGreatDoorHrB
namespace Go.Proofs.YtipfekjmcddelaaGreatDoor.PureHttpReads
open Go.RowKit Go.Lib Go.Proofs.YtipfekjmcddelaaGreatDoor.XHttpReads Go.Proofs.YtipfekjmcddelaaGreatDoorW.PrintWords Go.Proofs.YtipfekjmcddelaaGreatDoorW.PrintLast Go.Proofs.YtipfekjmcddelaaGreatDoorW.PrintMore
set_option maxRecDepth 100000
set_option linter.unusedSimpArgs false
def outG (m : Nat) : Option (List (List UInt8 × List UInt8) × Nat) → List S62 × Int × Bool
  | some x => (x.1.map mkS, (x.2 : Int), decide (m ≤ 32))
  | none => ([], 0, false)
theorem reffields_l (rs : List (List UInt8)) (hr : ∀ r ∈ rs, r.length ≤ 8192) (hl : rs.length ≤ 4000000) : ∀ (j k i : Nat) (acc : List (List UInt8 × List UInt8)) (n : Nat) (had : Bool), i + j = rs.length → 2 * j + 20000 ≤ k → acc.length ≤ i → (had = false → n = 0) →
    calepinref08_Fields.l0 k (rs.map fun (l : List UInt8) => (⟨l.toArray⟩ : ByteArray)) (acc.map mkS) (if had = true then (n : Int) else -1) (rs.map fun (l : List UInt8) => (⟨l.toArray⟩ : ByteArray)) (rs.length : Int) (i : Int) = some (outG rs.length (foldV (rs.drop i) acc n had)) := by
  intro j
  induction j with
  | zero =>
    intro k i acc n had hi hk ha hh
    obtain ⟨k, rfl⟩ : ∃ k', k = k' + 1 := ⟨k - 1, by omega⟩
    rw [calepinref08_Fields.l0, if_neg (by omega), List.drop_of_length_le (by omega), foldV, outG, List.length_map, show decide ((rs.length : Int) ≤ 32) = decide (rs.length ≤ 32) from decide_eq_decide.2 (by omega)]
    have hm : mx (if had = true then (n : Int) else -1) 0 = (n : Int) := by
      cases had with
      | true =>
        show mx (n : Int) 0 = n
        unfold mx
        rw [if_neg (by omega)]
      | false =>
        have h0 := hh rfl
        subst h0
        rfl
    rw [hm]
  | succ j ih =>
    intro k i acc n had hi hk ha hh
    obtain ⟨k, rfl⟩ : ∃ k', k = k' + 2 := ⟨k - 2, by omega⟩
    have hlt : i < rs.length := by omega
    have hd := List.drop_eq_getElem_cons hlt
    have hwi : Unit → wrap64 ((i : Int) + 1) = ((i + 1 : Nat) : Int) := fun _ => wrapE _ (i + 1) (by omega) (by omega)
    have hrd := rd_rows rs i hlt
    have hrl := hr rs[i] (List.getElem_mem hlt)
    obtain ⟨r, hre⟩ : ∃ r, rs[i] = r := ⟨_, rfl⟩
    rw [hre] at hrl hd hrd
    have hc := cut_le r [58]
    have hcut := refcut r 58 (by omega) (k + 1) (by omega) 58 rfl
    obtain ⟨c, hce⟩ : ∃ c, cut r [58] = c := ⟨_, rfl⟩
    rw [hce] at hc hcut
    have htl := trim_le c.2.1
    have htrim := reftrim c.2.1 (k + 1) (by omega) (by omega)
    obtain ⟨v, hv⟩ : ∃ v, trimS c.2.1 blank = v := ⟨_, rfl⟩
    rw [hv] at htl htrim
    have hlow := refLower ⟨c.1.toArray⟩ (by rw [size_eq, mk_l]; omega) (k + 1) (by rw [size_eq, mk_l]; omega)
    have hlowl : (turnS ⟨c.1.toArray⟩ 65 90).toList = lowL c.1 := by rw [Lib.toList_data]; rfl
    have hname := refname c.1 (by omega) (k + 1) (by omega)
    have hrange := refrange v 32 126 true (by omega) (k + 1) (by omega) 32 126 rfl rfl
    change _ = some (v.all textC) at hrange
    have hbad : rowV r = .bad → calepinref08_Fields.j1 (k + 1) (rs.map fun (l : List UInt8) => (⟨l.toArray⟩ : ByteArray)) (acc.map mkS) (if had = true then (n : Int) else -1) ⟨c.1.toArray⟩ ⟨v.toArray⟩ (turnS ⟨c.1.toArray⟩ 65 90) (rs.map fun (l : List UInt8) => (⟨l.toArray⟩ : ByteArray)) (rs.length : Int) (i : Int) true = some (outG rs.length (foldV (r :: rs.drop (i + 1)) acc n had)) := by
      intro h
      rw [calepinref08_Fields.j1, if_pos rfl, foldV, h]
      rfl
    rw [calepinref08_Fields.l0, if_pos (by omega), if_pos (by omega), if_pos (by rw [List.length_map]; omega), hrd, hcut]
    simp only [Option.bind_some]
    rw [htrim, hlow, hd]
    simp only [Option.bind_some]
    unfold rowV at hbad
    rw [hce, hv] at hbad
    by_cases h1 : c.2.2 = true
    · rw [if_pos h1, hname]
      simp only [Option.bind_some]
      by_cases h2 : nameV ⟨c.1.toArray⟩ = true
      · rw [if_pos h2, hrange]
        simp only [Option.bind_some]
        by_cases h3 : v.all textC = true
        · rw [if_pos h3, hlowl, show ([116, 114, 97, 110, 115, 102, 101, 114, 45, 101, 110, 99, 111, 100, 105, 110, 103] : List UInt8) = lowL tencL by decide]
          by_cases h4 : lowL c.1 = lowL tencL
          · rw [show (lowL c.1 == lowL tencL) = true from beq_iff_eq.2 h4]
            exact hbad (by rw [if_neg (fun h => h.2.2.2 h4)])
          · have hrow : rowV r = if lowL c.1 = lowL clenL then (if (numV ⟨v.toArray⟩ 65536).2 = true then .len (numV ⟨v.toArray⟩ 65536).1 else .bad) else .fld c.1 v := by
              unfold rowV
              rw [hce, hv, if_pos ⟨h1, h2, h3, h4⟩]
            rw [show (lowL c.1 == lowL tencL) = false from beq_eq_false_iff_ne.2 h4, calepinref08_Fields.j1, if_neg (by simp), hlowl, show ([99, 111, 110, 116, 101, 110, 116, 45, 108, 101, 110, 103, 116, 104] : List UInt8) = lowL clenL by decide, foldV, hrow, hwi ()]
            by_cases h5 : lowL c.1 = lowL clenL
            · have hnum := refNum ⟨v.toArray⟩ 65536 (by omega) (by rw [size_eq, mk_l]; omega) k (by rw [size_eq, mk_l]; omega)
              change calepinref01_Number.f k ⟨v.toArray⟩ 65536 = _ at hnum
              rw [if_pos h5, if_pos h5, hnum]
              simp only [Option.bind_some]
              have hle : (numV ⟨v.toArray⟩ 65536).1 ≤ 65536 := by
                rcases numV_o ⟨v.toArray⟩ 65536 (by omega) with ⟨z, h, _, e⟩ | ⟨_, e⟩ <;> rw [e] <;> omega
              generalize numV ⟨v.toArray⟩ 65536 = q at hle ⊢
              obtain ⟨z, b⟩ := q
              simp only at hle ⊢
              cases b with
              | false => simp [outG]
              | true =>
                rw [if_pos rfl, if_pos rfl]
                cases had with
                | true =>
                  rw [if_pos rfl, if_pos (by omega)]
                  simp [outG]
                | false =>
                  have hz := ih k (i + 1) acc z true (by omega) (by omega) (by omega) (fun h => by cases h)
                  rw [if_pos rfl] at hz
                  rw [if_neg (by simp), wrapE (z : Int) z rfl (by omega), hz]
                  rfl
            · rw [if_neg h5, if_neg h5, if_pos (by rw [List.length_map]; omega)]
              have := ih k (i + 1) (acc ++ [(c.1, v)]) n had (by omega) (by omega) (by simp; omega) hh
              rw [List.map_append] at this
              exact this
        · rw [if_neg h3]
          exact hbad (by rw [if_neg (fun h => h3 h.2.2.1)])
      · rw [if_neg h2]
        exact hbad (by rw [if_neg (fun h => h2 h.2.1)])
    · rw [if_neg h1]
      exact hbad (by rw [if_neg (fun h => h1 h.1)])
theorem reffields (rs : List (List UInt8)) (hr : ∀ r ∈ rs, r.length ≤ 8192) (hl : rs.length ≤ 8193) (k : Nat) (hk : 40000 ≤ k) :
    calepinref08_Fields.f k (rs.map fun (l : List UInt8) => (⟨l.toArray⟩ : ByteArray)) = some (outG rs.length (foldV rs [] 0 false)) := by
  have := reffields_l rs hr (by omega) rs.length k 0 [] 0 false (by omega) (by omega) (by simp) (fun _ => rfl)
  unfold calepinref08_Fields.f
  rw [List.length_map]
  simpa using this
theorem fields_any (rs : List (List UInt8)) (hr : ∀ r ∈ rs, r.length ≤ 8192) (k : Nat) (hk : 8300 ≤ k) :
    http_fields.f k (rs.map fun (l : List UInt8) => (⟨l.toArray⟩ : ByteArray)) = some (if rs.length ≤ 32 then outF (foldV rs [] 0 false) else ([], 0, false)) := by
  by_cases h : rs.length ≤ 32
  · rw [if_pos h]
    exact fields_f rs hr h k hk
  · rw [if_neg h]
    unfold http_fields.f
    rw [List.length_map, if_pos (by omega)]
theorem refasked (m t : List UInt8) (hm : m.length ≤ 8192) (ht : t.length ≤ 8192) (k : Nat) (hk : 8200 ≤ k) : calepinref08_Asked.f k ⟨m.toArray⟩ ⟨t.toArray⟩ = some (askedL m t) := by
  have zm : (⟨m.toArray⟩ : ByteArray).size = m.length := by rw [size_eq, mk_l]
  have zt : (⟨t.toArray⟩ : ByteArray).size = t.length := by rw [size_eq, mk_l]
  have h1 := refrange m 65 90 false (by omega) k (by omega) 65 90 rfl rfl
  have h2 := refrange t 33 126 false (by omega) k (by omega) 33 126 rfl rfl
  simp only [Bool.false_and, Bool.false_or] at h1 h2
  unfold calepinref08_Asked.f askedL
  rw [h1, h2, zm, zt]
  simp only [Option.bind_some]
  generalize (m.all fun c => decide (65 ≤ c.toNat) && decide (c.toNat ≤ 90)) = A
  generalize (t.all fun c => decide (33 ≤ c.toNat) && decide (c.toNat ≤ 126)) = B
  cases m with
  | nil => rw [if_neg (by simp)]; rfl
  | cons a m =>
    rw [if_pos (by simp)]
    by_cases hm2 : (a :: m).length ≤ 16
    · rw [if_pos (by omega), decide_eq_true hm2]
      cases A with
      | false => rw [if_neg (by simp)]; simp
      | true =>
        rw [if_pos rfl]
        cases t with
        | nil => rw [if_neg (by simp)]; simp
        | cons b t =>
          rw [if_pos (by simp)]
          by_cases ht2 : (b :: t).length ≤ 256
          · rw [if_pos (by omega), decide_eq_true ht2]; simp
          · rw [if_neg (by omega), decide_eq_false ht2]; simp
    · rw [if_neg (by omega), decide_eq_false hm2]; simp
end Go.Proofs.YtipfekjmcddelaaGreatDoor.PureHttpReads
