/- HttpWrites, the plain law, part E. -/
import Derived.Test.YtipfekjmcddelaaGreatDoorHwW
namespace Go.Proofs.YtipfekjmcddelaaGreatDoor.PureHttpWrites
open Go.RowKit Go.Lib Go.Proofs.YtipfekjmcddelaaGreatDoor.XHttpWrites Go.Proofs.YtipfekjmcddelaaGreatDoorW.zgo Go.Proofs.YtipfekjmcddelaaGreatDoorW.zgp Go.Proofs.YtipfekjmcddelaaGreatDoorW.zgq
set_option maxRecDepth 100000
set_option linter.unusedSimpArgs false
theorem law_end (k M : Nat) (hM : M = 140737488351232) (hk : 4 * M + 9000 ≤ k) (st : Int) (lx : List S62) (bx more : ByteArray) (w1 : (Lit.int .i64 st).wf = true) (hm : more.size ≤ 20000) (V : ByteArray × Int) (hV : V = respV st lx bx) :
    zaj.j5 (k + 2) more V.1 V.2 V.1 V.2 st lx bx = some true := by
  have hre : zcx.f st = some (reasonV st) := by
    unfold zcx.f
    rw [if_pos w1]
  rw [zaj.j5, if_pos rfl, if_pos rfl, hre, Option.bind_some, reason_ref, Option.bind_some, bne_self_eq_false, zaj.j6, if_neg (by simp)]
  by_cases h0 : V.2 = 0
  · by_cases hin : 100 ≤ st ∧ st ≤ 599
    · obtain ⟨N, rfl⟩ : ∃ N : Nat, st = (N : Int) := ⟨st.toNat, by omega⟩
      have hv : V = prV (respL N) lx bx := by
        rw [hV]
        unfold respV
        rw [if_pos hin, Int.toNat_natCast]
      have hz := h0
      rw [hv] at hz
      obtain ⟨hl, hg, hb, hJ, hP⟩ := prV_ok hz
      have zb := size_eq bx
      have hV1 : V.1.data.toList = joinL (respL N) (lx.map rowF ++ [clenR bx.size]) ++ (crlf2 ++ bx.data.toList) := by
        rw [hv, hP]
      have zV := size_eq V.1
      rw [hV1, List.length_append, List.length_append, ← zb] at zV
      have hVs : V.1.size = (joinL (respL N) (lx.map rowF ++ [clenR bx.size])).length + 4 + bx.size := by
        rw [zV]
        show _ + (4 + _) = _
        omega
      have hs : (V.1 ++ more).size = V.1.size + more.size := ByteArray.size_append
      have hback := response_back (V.1 ++ more) N (by omega) (by omega) lx bx more.data.toList (by omega) hl hg hb hJ (by rw [ByteArray.data_append, Array.toList_append, hV1]; simp only [List.append_assoc]) k (by omega)
      rw [if_pos h0, if_pos (by omega), hback, Option.bind_some]
      dsimp only
      rw [if_pos (by first | rfl | trivial), if_pos (by omega), if_pos (by first | rfl | trivial), if_pos (by first | rfl | trivial), same_self lx (by omega) k (by omega), Option.bind_some]
    · refine absurd h0 ?_
      rw [hV]
      unfold respV
      rw [if_neg hin]
      decide
  · rw [if_neg h0]
theorem law_resp (k M : Nat) (hM : M = 140737488351232) (hk : 4 * M + 9000 ≤ k) (st : Int) (lx : List S62) (bx more : ByteArray) (w1 : (Lit.int .i64 st).wf = true) (g1 : bx.size ≤ 140737488351232)
    (n1 : (∀ x ∈ lx, x.f0.size ≤ 140737488351232) ∧ ∀ x ∈ lx, x.f1.size ≤ 140737488351232) (hl : lx.length ≤ 200) (hm : more.size ≤ 20000) :
    zaj.j3 (k + 4) more st lx bx = some true := by
  have hx : ∀ z ∈ lx, z.f0.size ≤ M ∧ z.f1.size ≤ M := fun z hz => by rw [hM]; exact ⟨n1.1 z hz, n1.2 z hz⟩
  have key : ∀ z : Bool, z = decide (100 ≤ st ∧ st ≤ 599) → zaj.j4 (k + 3) more (⟨#[]⟩ : ByteArray) 80 (respV st lx bx).1 (respV st lx bx).2 z st lx bx = some true := by
    intro z hz
    rw [zaj.j4]
    by_cases h : 100 ≤ st ∧ st ≤ 599
    · obtain ⟨N, rfl⟩ : ∃ N : Nat, st = (N : Int) := ⟨st.toNat, by omega⟩
      have hv : prV (respL N) lx bx = respV (N : Int) lx bx := by
        unfold respV
        rw [if_pos h, Int.toNat_natCast]
      have hds : (⟨(decDigits N).toArray⟩ : ByteArray).size = 3 := by rw [zdt]; exact (zef N (by omega) (by omega)).1
      have hrs : (reasonV (N : Int)).size ≤ 30 := by rw [size_eq]; exact (zdy (N : Int)).2
      have h9 : (⟨#[72, 84, 84, 80, 47, 49, 46, 49, 32]⟩ : ByteArray).size = 9 := rfl
      have h32 : (⟨#[32]⟩ : ByteArray).size = 1 := rfl
      rw [hz, decide_eq_true h, if_pos rfl, zgf _ (by omega), dec_r (k + 2) N (by omega) (by omega), Option.bind_some, if_pos (by rw [hds]; omega), if_pos (by rw [ByteArray.size_append, h9, hds]; omega), reason_ref, Option.bind_some,
        if_pos (by rw [ByteArray.size_append, ByteArray.size_append, h9, hds, h32]; omega), resp_row, write_any _ (by have := resp_len N (by omega) (by omega); omega) lx bx M (by omega) (by omega) hx (by omega) (k + 2) (by omega), Option.bind_some, hv]
      exact law_end k M hM hk (N : Int) lx bx more w1 hm _ rfl
    · have hv : respV st lx bx = (⟨#[]⟩, 80) := by
        unfold respV
        rw [if_neg h]
      rw [hz, decide_eq_false h, if_neg (by simp)]
      have h2 := law_end k M hM hk st lx bx more w1 hm _ hv.symm
      rw [hv]
      exact h2
  rw [zaj.j3, printResp_any st bx lx w1 M (by omega) (by omega) hx (k + 3) (by omega), Option.bind_some]
  by_cases h1 : st ≥ 100
  · rw [if_pos h1]
    exact key _ (decide_eq_decide.2 ⟨fun h => ⟨h1, h⟩, fun h => h.2⟩)
  · rw [if_neg h1]
    exact key _ (decide_eq_false (fun h => h1 h.1)).symm
theorem law_req (k M : Nat) (hM : M = 140737488351232) (hk : 4 * M + 9000 ≤ k) (m t : ByteArray) (l : List S62) (b : ByteArray) (st : Int) (lx : List S62) (bx more : ByteArray) (V : ByteArray × Int) (hV : V = reqV m t l b) (hm : more.size ≤ 20000)
    (h3 : zaj.j3 (k + 4) more st lx bx = some true) : zaj.j1 (k + 6) more V.1 V.2 V.1 V.2 m t l b st lx bx = some true := by
  rw [zaj.j1, if_pos rfl, bne_self_eq_false, zaj.j2, if_neg (by simp)]
  by_cases h0 : V.2 = 0
  · by_cases ha : askedL m.data.toList t.data.toList = true
    · have hv : V = prV (reqL m.data.toList t.data.toList) l b := by
        rw [hV]
        unfold reqV
        rw [if_pos ha]
      have hz := h0
      rw [hv] at hz
      obtain ⟨hl, hg, hb, hJ, hP⟩ := prV_ok hz
      have zb := size_eq b
      have hV1 : V.1.data.toList = joinL (reqL m.data.toList t.data.toList) (l.map rowF ++ [clenR b.size]) ++ (crlf2 ++ b.data.toList) := by
        rw [hv, hP]
      have zV := size_eq V.1
      rw [hV1, List.length_append, List.length_append, ← zb] at zV
      have hVs : V.1.size = (joinL (reqL m.data.toList t.data.toList) (l.map rowF ++ [clenR b.size])).length + 4 + b.size := by
        rw [zV]
        show _ + (4 + _) = _
        omega
      have hs : (V.1 ++ more).size = V.1.size + more.size := ByteArray.size_append
      have hback := request_back (V.1 ++ more) m t ha l b more.data.toList (by omega) hl hg hb hJ (by rw [ByteArray.data_append, Array.toList_append, hV1]; simp only [List.append_assoc]) (k + 4) (by omega)
      rw [if_pos h0, if_pos (by omega), hback, Option.bind_some]
      dsimp only
      rw [if_pos (by first | rfl | trivial), if_pos (by omega), if_pos (by first | rfl | trivial), if_pos (by first | rfl | trivial), if_pos (by first | rfl | trivial), same_self l (by omega) (k + 4) (by omega), Option.bind_some, if_pos rfl]
      exact h3
    · refine absurd h0 ?_
      rw [hV]
      unfold reqV
      rw [if_neg ha]
      decide
  · rw [if_neg h0]
    exact h3
theorem HttpWritesP (m t : ByteArray) (l : List S62) (b : ByteArray) (st : Int) (lx : List S62) (bx : ByteArray) (more : ByteArray)
    (g0 : m.size ≤ 140737488351232 ∧ t.size ≤ 140737488351232 ∧ b.size ≤ 140737488351232) (n0 : l.length * 32 ≤ 140737488351232 ∧ (∀ x ∈ l, x.f0.size ≤ 140737488351232) ∧ ∀ x ∈ l, x.f1.size ≤ 140737488351232)
    (w1 : (Lit.int .i64 st).wf = true) (g1 : bx.size ≤ 140737488351232) (n1 : lx.length * 32 ≤ 140737488351232 ∧ (∀ x ∈ lx, x.f0.size ≤ 140737488351232) ∧ ∀ x ∈ lx, x.f1.size ≤ 140737488351232) :
    ∃ k, zaj.f k m t l b st lx bx more = some true := by
  obtain ⟨M, hM⟩ : ∃ M : Nat, M = 140737488351232 := ⟨_, rfl⟩
  obtain ⟨k, hk⟩ : ∃ k : Nat, k = 4 * M + 9000 := ⟨_, rfl⟩
  have hx : ∀ z ∈ l, z.f0.size ≤ M ∧ z.f1.size ≤ M := fun z hz => by rw [hM]; exact ⟨n0.2.1 z hz, n0.2.2 z hz⟩
  refine ⟨k + 7, ?_⟩
  unfold zaj.f
  rw [first_ge (k + 7) (by omega), Option.bind_some, if_pos rfl, wrapE ((l.length : Int) + (lx.length : Int)) (l.length + lx.length) (by omega) (by omega)]
  by_cases h1 : ((l.length + lx.length : Nat) : Int) > 200
  · rw [if_pos h1, zaj.j0, if_pos rfl]
  · rw [if_neg h1, zaj.j0]
    by_cases h2 : (more.size : Int) > 20000
    · rw [decide_eq_true h2, if_pos rfl]
    · have h3 := law_resp k M hM (by omega) st lx bx more w1 g1 n1.2 (by omega) (by omega)
      rw [decide_eq_false h2, if_neg (by simp), printReq_any m t b l M (by omega) (by omega) (by omega) (by omega) hx (k + 6) (by omega), Option.bind_some, asked_any m t (by omega) (by omega) (k + 6) (by omega), Option.bind_some]
      by_cases ha : askedL m.data.toList t.data.toList = true
      · have hv : prV (reqL m.data.toList t.data.toList) l b = reqV m t l b := by
          unfold reqV
          rw [if_pos ha]
        have h32 : (⟨#[32]⟩ : ByteArray).size = 1 := rfl
        rw [if_pos ha, if_pos (by omega), if_pos (by rw [ByteArray.size_append, h32]; omega), if_pos (by rw [ByteArray.size_append, ByteArray.size_append, h32]; omega), req_row, write_any _ (req_len ha) l b M (by omega) (by omega) hx (by omega) (k + 6) (by omega), Option.bind_some, hv]
        exact law_req k M hM (by omega) m t l b st lx bx more _ rfl (by omega) h3
      · have hv : reqV m t l b = (⟨#[]⟩, 80) := by
          unfold reqV
          rw [if_neg ha]
        have h4 := law_req k M hM (by omega) m t l b st lx bx more _ hv.symm (by omega) h3
        rw [if_neg ha, hv]
        exact h4
end Go.Proofs.YtipfekjmcddelaaGreatDoor.PureHttpWrites
