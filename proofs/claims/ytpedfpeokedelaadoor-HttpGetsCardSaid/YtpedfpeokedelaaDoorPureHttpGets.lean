/- HttpGets, the plain law. -/
import Derived.Test.YtpedfpeokedelaaDoorXHttpGetsx5
import Derived.Test.YtpedfpeokedelaaDoorTp
import Derived.KernelRfl
namespace Go.Proofs.YtpedfpeokedelaaDoor.PureHttpGets
open Go.RowKit Go.Lib Go.Proofs.YtpedfpeokedelaaDoor.XHttpGets Go.Proofs.YtpedfpeokedelaaDoorW.PrintWords Go.Proofs.YtpedfpeokedelaaDoorW.PrintLast Go.Proofs.YtpedfpeokedelaaDoorW.PrintMore
set_option maxRecDepth 100000
set_option linter.unusedSimpArgs false
theorem btN (s : ByteArray) (i : Nat) : bt s (i : Int) = ((s.data.toList.getD i 0).toNat : Int) := by
  have hsz := size_eq s
  unfold bt
  by_cases h : i < s.size
  · rw [dif_pos (by simpa using h), List.getD_eq_getElem?_getD, List.getElem?_eq_getElem (by omega)]
    rfl
  · rw [dif_neg (by simpa using h), List.getD_eq_getElem?_getD, List.getElem?_eq_none (by omega)]
    rfl
theorem byte_all {p : UInt8 → Bool} (h : ∀ x : Fin 256, p (UInt8.ofNat x.val) = true) (c : UInt8) : p c = true := by
  have := h ⟨c.toNat, c.toNat_lt⟩
  simpa using this
theorem set_at (A : List Int) (z v : Int) (R : List Int) : (A ++ z :: R).set A.length v = A ++ v :: R := by
  induction A with
  | nil => rfl
  | cons a A ih => simp
def gLower (c : UInt8) : Int := if 65 ≤ c.toNat ∧ c.toNat ≤ 90 then (((c.toNat + 32) % 256 : Nat) : Int) else (c.toNat : Int)
theorem gLower_turn (c : UInt8) : UInt8.ofNat (gLower c).toNat = turnB 65 90 c := by
  have := byte_all (p := fun c => UInt8.ofNat (gLower c).toNat == turnB 65 90 c) (by decide +kernel) c
  exact beq_iff_eq.1 this
theorem numsLower (s : ByteArray) : strOfNums (s.data.toList.map gLower) = turnS s 65 90 := by
  apply ByteArray.ext
  apply Array.toList_inj.1
  rw [strOfNums_data, List.map_map]
  exact List.map_congr_left fun c _ => gLower_turn c
theorem refLower_l (s : ByteArray) (hs : s.size ≤ 281474976710656) : ∀ (j k i : Nat), i + j = s.data.toList.length → j + 1 ≤ k →
    calepinref01_Lower.l0 k s ((s.data.toList.take i).map gLower ++ List.replicate j 0) (s.data.toList.length : Int) (i : Int) = some (strOfNums (s.data.toList.map gLower)) := by
  have hsz := size_eq s
  intro j
  induction j with
  | zero =>
    intro k i hi hk
    obtain ⟨k, rfl⟩ : ∃ k', k = k' + 1 := ⟨k - 1, by omega⟩
    rw [calepinref01_Lower.l0, if_neg (by omega), List.replicate_zero, List.append_nil, List.take_of_length_le (by omega)]
  | succ j ih =>
    intro k i hi hk
    obtain ⟨k, rfl⟩ : ∃ k', k = k' + 1 := ⟨k - 1, by omega⟩
    have hA : ((s.data.toList.take i).map gLower).length = i := by rw [List.length_map, List.length_take]; omega
    have hset : ∀ z v : Int, ((s.data.toList.take i).map gLower ++ z :: List.replicate j 0).set ((i : Int)).toNat v = (s.data.toList.take i).map gLower ++ v :: List.replicate j 0 := fun z v => by
      rw [Int.toNat_natCast]
      conv => lhs; rw [show i = ((s.data.toList.take i).map gLower).length from hA.symm]
      rw [← hA]
      simp only [hA]
      have := set_at ((s.data.toList.take i).map gLower) z v (List.replicate j 0)
      rw [hA] at this
      exact this
    obtain ⟨c, hc⟩ : ∃ c, s.data.toList.getD i 0 = c := ⟨_, rfl⟩
    have hci : s.data.toList[i]'(by omega) = c := by rw [← hc, List.getD_eq_getElem?_getD, List.getElem?_eq_getElem (by omega)]; rfl
    have hc256 := c.toNat_lt
    have htake : (s.data.toList.take (i + 1)).map gLower = (s.data.toList.take i).map gLower ++ [gLower c] := by
      rw [List.take_add_one, List.getElem?_eq_getElem (by omega), hci]
      simp
    have hnext := ih k (i + 1) (by omega) (by omega)
    rw [htake, List.append_assoc, List.singleton_append] at hnext
    have hwi : wrap64 ((i : Int) + 1) = ((i + 1 : Nat) : Int) := by unfold wrap64; omega
    rw [calepinref01_Lower.l0, if_pos (by omega), if_pos (by omega), if_pos (by omega), if_pos (by rw [List.length_append, hA, List.length_replicate]; omega), List.replicate_succ, hset, btN, hc, hwi]
    simp only [Option.bind_some, hset]
    by_cases h1 : 65 ≤ c.toNat
    · rw [if_pos (by omega)]
      by_cases h2 : c.toNat ≤ 90
      · rw [if_pos (by omega), show (((c.toNat : Int) + 32) % 256) = gLower c by unfold gLower; rw [if_pos ⟨h1, h2⟩]; omega]
        exact hnext
      · rw [if_neg (by omega), show (c.toNat : Int) = gLower c by unfold gLower; rw [if_neg (by omega)]]
        exact hnext
    · rw [if_neg (by omega), show (c.toNat : Int) = gLower c by unfold gLower; rw [if_neg (by omega)]]
      exact hnext
theorem refLower (s : ByteArray) (hs : s.size ≤ 140737488351232) (k : Nat) (hk : s.size + 1 ≤ k) : calepinref01_Lower.f k s = some (turnS s 65 90) := by
  have hsz := size_eq s
  have h := refLower_l s (by omega) s.data.toList.length k 0 (by omega) (by omega)
  rw [List.take_zero, List.map_nil, List.nil_append, numsLower] at h
  unfold calepinref01_Lower.f
  rw [if_pos (by omega), if_pos (by omega)]
  simp only [Option.bind_some, Int.toNat_natCast, List.length_replicate]
  rw [hsz]
  exact h
theorem low_t (s : ByteArray) (h : s.size ≤ 281474976710656) : char_Lower.f s = some (turnS s 65 90) := by
  unfold char_Lower.f char_turned.f
  rw [if_pos ⟨h, by decide⟩]
  rfl
theorem bt_get (s : ByteArray) (i : Nat) (h : i < s.data.toList.length) : bt s (i : Int) = ((s.data.toList[i]'h).toNat : Int) := by
  have h2 : i < s.size := by rw [size_eq]; exact h
  unfold bt
  rw [dif_pos (by simpa using h2)]
  rfl
theorem mk_l (l : List UInt8) : (⟨l.toArray⟩ : ByteArray).data.toList = l := rfl
theorem first_ge : ∀ k, 60 ≤ k → calepinlaw08_first.f k = some true := by
  have h0 : calepinlaw08_first.f 60 = some true := by kernel_rfl
  intro k hk
  obtain ⟨j, rfl⟩ : ∃ j, k = 60 + j := ⟨k - 60, by omega⟩
  clear hk
  induction j with
  | zero => exact h0
  | succ j ih => exact calepinlaw08_first.mono _ _ ih
theorem same_f (a b : ByteArray) (ha : a.size ≤ 281474976710656) (hb : b.size ≤ 281474976710656) : char_Same.f a b = some ((turnS a 65 90).data.toList == (turnS b 65 90).data.toList) := by
  unfold char_Same.f
  rw [low_t a ha, low_t b hb]
  simp only [Option.bind_some, Lib.toList_data]
def getV : List S74 → ByteArray → ByteArray × Bool
  | [], _ => (⟨#[]⟩, false)
  | x :: l, n => if (turnS x.f0 65 90).data.toList = (turnS n 65 90).data.toList then (x.f1, true) else getV l n
theorem rd_at (l : List S74) (i : Nat) (h : i < l.length) : rd_T74 l (i : Int) = l[i] := by simp [rd_T74, List.getElem?_eq_getElem h]
theorem get_loop (l : List S74) (n : ByteArray) (hl : l.length < 4611686018427387904) (hx : ∀ x ∈ l, x.f0.size ≤ 140737488351232) (hn : n.size ≤ 140737488351232) : ∀ (j k i : Nat), i + j = l.length → j + 1 ≤ k →
    http_Get.l0 k n l (l.length : Int) (i : Int) = some (getV (l.drop i) n) := by
  intro j
  induction j with
  | zero =>
    intro k i hi hk
    obtain ⟨k, rfl⟩ : ∃ k', k = k' + 1 := ⟨k - 1, by omega⟩
    rw [http_Get.l0, if_neg (by omega), List.drop_of_length_le (by omega)]
    rfl
  | succ j ih =>
    intro k i hi hk
    obtain ⟨k, rfl⟩ : ∃ k', k = k' + 1 := ⟨k - 1, by omega⟩
    have hlt : i < l.length := by omega
    have hd := List.drop_eq_getElem_cons hlt
    have hwi : wrap64 ((i : Int) + 1) = ((i + 1 : Nat) : Int) := by unfold wrap64; omega
    have hz := hx l[i] (List.getElem_mem hlt)
    rw [http_Get.l0, if_pos (by omega), if_pos (by omega), if_pos (by omega), rd_at l i hlt, same_f _ _ (by omega) (by omega), hd, getV]
    simp only [Option.bind_some]
    by_cases h : (turnS l[i].f0 65 90).data.toList = (turnS n 65 90).data.toList
    · rw [if_pos h, if_pos (beq_iff_eq.2 h)]
    · rw [if_neg h, if_neg (by simpa using h), hwi, ih k (i + 1) (by omega) (by omega)]
theorem law_loop (l : List S74) (n v : ByteArray) (ok : Bool) (hl : l.length < 4611686018427387904) (M : Nat) (hM : M ≤ 140737488351232) (hx : ∀ x ∈ l, x.f0.size ≤ M) (hn : n.size ≤ M) : ∀ (j k i : Nat), i + j = l.length → j + M + 2 ≤ k → getV (l.drop i) n = (v, ok) →
    calepinlaw08_HttpGets.l0 k n v ok l (l.length : Int) (i : Int) = some true := by
  intro j
  induction j with
  | zero =>
    intro k i hi hk hg
    obtain ⟨k, rfl⟩ : ∃ k', k = k' + 1 := ⟨k - 1, by omega⟩
    rw [List.drop_of_length_le (by omega)] at hg
    obtain ⟨rfl, rfl⟩ := Prod.mk.inj hg
    rw [calepinlaw08_HttpGets.l0, if_neg (by omega), if_neg (by simp), Lib.toList_data]
    rfl
  | succ j ih =>
    intro k i hi hk hg
    obtain ⟨k, rfl⟩ : ∃ k', k = k' + 1 := ⟨k - 1, by omega⟩
    have hlt : i < l.length := by omega
    have hd := List.drop_eq_getElem_cons hlt
    have hwi : wrap64 ((i : Int) + 1) = ((i + 1 : Nat) : Int) := by unfold wrap64; omega
    have hz := hx l[i] (List.getElem_mem hlt)
    rw [hd, getV] at hg
    rw [calepinlaw08_HttpGets.l0, if_pos (by omega), if_pos (by omega), if_pos (by omega), rd_at l i hlt, refLower _ (by omega) k (by omega), refLower _ (by omega) k (by omega)]
    simp only [Option.bind_some, Lib.toList_data]
    by_cases h : (turnS l[i].f0 65 90).data.toList = (turnS n 65 90).data.toList
    · rw [if_pos h] at hg
      obtain ⟨rfl, rfl⟩ := Prod.mk.inj hg
      rw [if_pos h, if_pos rfl]
      simp
    · rw [if_neg h] at hg
      rw [if_neg h, hwi, ih k (i + 1) (by omega) (by omega) hg]
theorem HttpGets (l : List S74) (n : ByteArray) (hl : l.length < 4611686018427387904) (hx : ∀ x ∈ l, x.f0.size ≤ 140737488351232) (hn : n.size ≤ 140737488351232) : ∃ k, calepinlaw08_HttpGets.f k l n = some true := by
  obtain ⟨M, hM⟩ : ∃ M : Nat, M = 140737488351232 := ⟨_, rfl⟩
  rw [← hM] at hx hn
  obtain ⟨k, hk⟩ : ∃ k : Nat, k = l.length + M + 100 := ⟨_, rfl⟩
  refine ⟨k, ?_⟩
  unfold calepinlaw08_HttpGets.f
  rw [first_ge _ (by omega)]
  simp only [Option.bind_some]
  have hg := get_loop l n hl (by rw [← hM]; exact hx) (by rw [← hM]; exact hn) l.length k 0 (by omega) (by omega)
  simp only [Int.natCast_zero, List.drop_zero] at hg
  rw [if_pos trivial]
  unfold http_Get.f
  rw [hg]
  simp only [Option.bind_some]
  have := law_loop l n (getV l n).1 (getV l n).2 hl M (by omega) hx hn l.length k 0 (by omega) (by omega) rfl
  simpa using this
end Go.Proofs.YtpedfpeokedelaaDoor.PureHttpGets
