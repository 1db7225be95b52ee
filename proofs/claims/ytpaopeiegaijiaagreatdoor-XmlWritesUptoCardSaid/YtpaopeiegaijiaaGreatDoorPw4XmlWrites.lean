import Derived.Test.YtpaopeiegaijiaaGreatDoorPw3XmlWrites
import Derived.Test.YtpaopeiegaijiaaGreatDoorXXmlWritesx7
namespace Go.Proofs.YtpaopeiegaijiaaGreatDoor.PwXmlWrites
open Go.RowKit Go.Lib Go.Proofs.YtpaopeiegaijiaaGreatDoor Go.Proofs.YtpaopeiegaijiaaGreatDoor.XXmlWrites Go.Proofs.YtpaopeiegaijiaaGreatDoorW.zgv Go.Proofs.YtpaopeiegaijiaaGreatDoorW.zgw
set_option linter.unusedVariables false
set_option linter.unusedSimpArgs false
def numsL (X : List UInt8) : List Int := X.map fun b => (b.toNat : Int)
theorem zdi (X : List UInt8) : (numsL X).length = X.length := by simp [numsL]
theorem zee (X : List UInt8) (s : ByteArray) : numsL X ++ bytesOf s = numsL (X ++ bl s) := by simp [numsL, bytesOf, bl]
theorem zdh (X : List UInt8) (c : UInt8) (v : Int) (h : v = (c.toNat : Int)) : numsL X ++ [v] = numsL (X ++ [c]) := by subst h; simp [numsL]
theorem nums_str (X : List UInt8) : strOfNums (numsL X) = ⟨X.toArray⟩ := by
  apply ByteArray.ext
  apply Array.toList_inj.1
  rw [strOfNums_data, numsL, List.map_map]
  simp
  conv => rhs; rw [← List.map_id X]
  refine List.map_congr_left fun c _ => ?_
  simp
theorem print_l1 (l0 : List S60) (len i : Int) (f0 f1 : Int) (f2 : ByteArray) (T : List UInt8) (hT : T.length ≤ 2000000) : ∀ (m j k : Nat) (X : List UInt8), j + m = T.length → X.length ≤ 100000000000 - 5 * m →
    zaf.l1 (k + m + 1) l0 (numsL X) (j : Int) l0 len i f0 f1 f2 ⟨T.toArray⟩ = zaf.l0 k l0 (numsL (X ++ escL (T.drop j))) l0 len (wrap64 (i + 1))
  | 0, j, k, X, hj, hX => by
    have hz := sz_l T
    rw [zaf.l1, if_neg (by omega), List.drop_of_length_le (by omega)]
    simp [escL]
  | m + 1, j, k, X, hj, hX => by
    have hz := sz_l T
    have hlt : j < T.length := by omega
    have hl := zdi X
    have IH := fun X' (h : X'.length ≤ 100000000000 - 5 * m) => print_l1 l0 len i f0 f1 f2 T hT m (j + 1) k X' (by omega) h
    have hw : wrap64 ((j : Int) + 1) = ((j + 1 : Nat) : Int) := wrapE _ _ (by omega) (by omega)
    rw [show k + (m + 1) + 1 = (k + m + 1) + 1 by omega, zaf.l1, if_pos (by omega), if_pos (by omega), bt_l T j hlt, hw, List.drop_eq_getElem_cons hlt, zdg]
    generalize T[j] = c
    have e : ∀ d : UInt8, ((c.toNat : Int) = (d.toNat : Int)) ↔ c = d := fun d => ⟨fun h => UInt8.toNat_inj.1 (by omega), fun h => by rw [h]⟩
    have e38 : ((c.toNat : Int) = 38) ↔ c = 38 := e 38
    have e60 : ((c.toNat : Int) = 60) ↔ c = 60 := e 60
    have e62 : ((c.toNat : Int) = 62) ↔ c = 62 := e 62
    have e13 : ((c.toNat : Int) = 13) ↔ c = 13 := e 13
    have fin : ∀ (s : ByteArray), bl s = escB c → zaf.l1 (k + m + 1) l0 (numsL X ++ bytesOf s) ((j + 1 : Nat) : Int) l0 len i f0 f1 f2 ⟨T.toArray⟩ = zaf.l0 k l0 (numsL (X ++ (escB c ++ escL (T.drop (j + 1))))) l0 len (wrap64 (i + 1)) := fun s hs => by
      have h5 := zdt c
      rw [zee, hs, IH (X ++ escB c) (by rw [List.length_append]; omega), List.append_assoc]
    by_cases c1 : c = 38
    · rw [if_pos (e38.2 c1), if_pos (by omega)]; exact fin _ (by rw [c1]; rfl)
    · rw [if_neg (fun h => c1 (e38.1 h))]
      by_cases c2 : c = 60
      · rw [if_pos (e60.2 c2), if_pos (by omega)]; exact fin _ (by rw [c2]; rfl)
      · rw [if_neg (fun h => c2 (e60.1 h))]
        by_cases c3 : c = 62
        · rw [if_pos (e62.2 c3), if_pos (by omega)]; exact fin _ (by rw [c3]; rfl)
        · rw [if_neg (fun h => c3 (e62.1 h))]
          by_cases c4 : c = 13
          · rw [if_pos (e13.2 c4), if_pos (by omega)]; exact fin _ (by rw [c4]; rfl)
          · rw [if_neg (fun h => c4 (e13.1 h)), if_pos (by omega)]
            have hb : escB c = [c] := by simp [escB, c1, c2, c3, c4]
            rw [zdh X c _ rfl, IH (X ++ [c]) (by simp; omega), hb, List.append_assoc]
/-- What a piece adds in front of its characters. -/
def openE (l0 : List S60) (i : Nat) (p : S60) : List UInt8 :=
  if p.f0 = 1 then 60 :: (nmL p.f1 (bl p.f2) ++ ((if i = 0 then attrsL else []) ++ ((if (zab l0 ((i + 1 : Nat) : Int)).f0 = 2 then [47] else []) ++ [62])))
  else if p.f0 = 2 ∧ (zab l0 ((i : Int) - 1)).f0 ≠ 1 then 60 :: 47 :: (nmL p.f1 (bl p.f2) ++ [62]) else []
theorem print_piece (l0 : List S60) (M : Nat) (hM : M ≤ 2000000) (hl : l0.length ≤ 1000) (i : Nat) (p : S60) (hi : i < l0.length) (hrd : zab l0 (i : Int) = p) (hp : sizeOkB M p) (hz : p.f1 = 0 ∨ p.f1 = 1 ∨ p.f1 = 2)
    (h1 : p.f0 = 1 → i + 1 < l0.length) (h2 : p.f0 = 2 → 0 < i) (k : Nat) (X : List UInt8) (hX : X.length ≤ 50000000000) :
    zaf.l0 (k + p.f3.size + 7) l0 (numsL X) l0 (l0.length : Int) (i : Int) = zaf.l0 k l0 (numsL (X ++ (openE l0 i p ++ escL (bl p.f3)))) l0 (l0.length : Int) (((i + 1 : Nat)) : Int) := by
  obtain ⟨f0, f1, f2, f3⟩ := p
  obtain ⟨hp2, hp3⟩ := hp
  simp only at hp2 hp3 hz h1 h2 ⊢
  have hXl := zdi X
  obtain ⟨n, hn⟩ : ∃ n, nmL f1 (bl f2) = n := ⟨_, rfl⟩
  have hnl : n.length ≤ f2.size + 2 := by
    rw [← hn, ← zcl]; unfold nmL; split
    · simp
    · split <;> simp
  have hw1 : wrap64 ((i : Int) + 1) = ((i + 1 : Nat) : Int) := wrapE _ _ (by omega) (by omega)
  have hw2 : wrap64 ((i : Int) - 1) = (i : Int) - 1 := by unfold wrap64; omega
  have hf2 : f2 = ⟨(bl f2).toArray⟩ := (zfd f2).symm
  -- the name
  have hname : zaf.l0 (k + f3.size + 7) l0 (numsL X) l0 (l0.length : Int) (i : Int) = zaf.j2 (k + f3.size + 5) l0 (numsL X) (i : Int) ⟨n.toArray⟩ l0 (l0.length : Int) (i : Int) f0 f1 f2 f3 := by
    rw [show k + f3.size + 7 = (k + f3.size + 6) + 1 by omega, zaf.l0, if_pos (by omega), if_pos (by omega), if_pos (by omega), hrd]
    dsimp only
    rcases hz with z | z | z
    · rw [if_neg (show ¬ f1 = 1 by omega), show k + f3.size + 6 = (k + f3.size + 5) + 1 by omega, zaf.j1, if_neg (show ¬ f1 = 2 by omega)]
      rw [← hn, z]
      show zaf.j2 _ _ _ _ f2 _ _ _ _ _ _ _ = zaf.j2 _ _ _ _ ⟨(bl f2).toArray⟩ _ _ _ _ _ _ _
      rw [zfd]
    · rw [if_pos z, if_pos (show 2 + f2.size ≤ 9223372036854775807 by omega), show k + f3.size + 6 = (k + f3.size + 5) + 1 by omega, zaf.j1, if_neg (show ¬ f1 = 2 by omega)]
      rw [← hn, z, show (⟨#[68, 58]⟩ : ByteArray) ++ f2 = ⟨(nmL 1 (bl f2)).toArray⟩ from zgn (by rw [zfc]; simp [bl, nmL])]
    · rw [if_neg (show ¬ f1 = 1 by omega), show k + f3.size + 6 = (k + f3.size + 5) + 1 by omega, zaf.j1, if_pos z, if_pos (show 2 + f2.size ≤ 9223372036854775807 by omega)]
      rw [← hn, z, show (⟨#[67, 58]⟩ : ByteArray) ++ f2 = ⟨(nmL 2 (bl f2)).toArray⟩ from zgn (by rw [zfc]; simp [bl, nmL])]
  have hlast : ∀ Y : List UInt8, Y.length ≤ 60000000000 → zaf.j5 (k + f3.size + 2) l0 (numsL Y) l0 (l0.length : Int) (i : Int) f0 f1 f2 f3 = zaf.l0 k l0 (numsL (Y ++ escL (bl f3))) l0 (l0.length : Int) (((i + 1 : Nat)) : Int) := fun Y hY => by
    have h := print_l1 l0 (l0.length : Int) (i : Int) f0 f1 f2 (bl f3) (by rw [zcl]; omega) (bl f3).length 0 k Y (by omega) (by rw [zcl]; omega)
    rw [zfd, zcl, List.drop_zero, hw1] at h
    rw [show k + f3.size + 2 = (k + f3.size + 1) + 1 by omega, zaf.j5]
    exact h
  rw [hname, show k + f3.size + 5 = (k + f3.size + 4) + 1 by omega, zaf.j2]
  unfold openE
  dsimp only
  rw [hn]
  by_cases k1 : f0 = 1
  · have hlt := h1 k1
    have hj3 : ∀ Y : List UInt8, Y.length ≤ 60000000000 → zaf.j3 (k + f3.size + 4) l0 (numsL Y) (i : Int) ⟨n.toArray⟩ l0 (l0.length : Int) (i : Int) f0 f1 f2 f3 = zaf.l0 k l0 (numsL (Y ++ escL (bl f3))) l0 (l0.length : Int) (((i + 1 : Nat)) : Int) := fun Y hY => by
      rw [show k + f3.size + 4 = (k + f3.size + 3) + 1 by omega, zaf.j3, if_neg (show ¬ f0 = 2 by omega), show k + f3.size + 3 = (k + f3.size + 2) + 1 by omega, zaf.j4, if_neg Bool.false_ne_true]
      exact hlast Y hY
    have s1 : ((⟨#[60]⟩ : ByteArray) ++ ⟨n.toArray⟩).size = n.length + 1 := by simp [ByteArray.size]
    have b1 : bl ((⟨#[60]⟩ : ByteArray) ++ ⟨n.toArray⟩) = 60 :: n := by simp [bl]
    rw [if_pos k1, if_pos (show 1 + (⟨n.toArray⟩ : ByteArray).size ≤ 9223372036854775807 by rw [sz_l]; omega), if_pos (by rw [s1]; omega), Option.bind_some, zee, b1, if_pos k1]
    by_cases i0 : i = 0
    · subst i0
      have ba : ∀ Y : List UInt8, numsL Y ++ bytesOf (⟨#[32, 120, 109, 108, 110, 115, 58, 68, 61, 34, 68, 65, 86, 58, 34, 32, 120, 109, 108, 110, 115, 58, 67, 61, 34, 117, 114, 110, 58, 105, 101, 116, 102, 58, 112, 97, 114, 97, 109, 115, 58, 120, 109, 108, 58, 110, 115, 58, 99, 97, 114, 100, 100, 97, 118, 34]⟩ : ByteArray) = numsL (Y ++ attrsL) := fun Y => zee Y _
      rw [if_pos (show ((0 : Nat) : Int) = 0 from rfl), if_pos (by rw [zdi]; simp; omega), Option.bind_some, ba, hw1, if_pos (by omega), if_pos (by omega), if_pos rfl]
      have ha : attrsL.length = 56 := rfl
      by_cases n2 : (zab l0 ((0 + 1 : Nat) : Int)).f0 = 2
      · rw [if_pos n2, if_pos (by rw [zdi]; simp; omega), Option.bind_some, if_pos (by rw [zdh _ 47 47 rfl, zdi]; simp; omega), zdh _ 47 47 rfl, zdh _ 62 62 rfl, hj3 _ (by simp; omega), if_pos n2]
        simp
      · rw [if_neg n2, if_pos (by rw [zdi]; simp; omega), zdh _ 62 62 rfl, hj3 _ (by simp; omega), if_neg n2]
        simp
    · rw [if_neg (show ¬ (i : Int) = 0 by omega), hw1, if_pos (by omega), if_pos (by omega), if_neg i0]
      by_cases n2 : (zab l0 ((i + 1 : Nat) : Int)).f0 = 2
      · rw [if_pos n2, if_pos (by rw [zdi]; simp; omega), Option.bind_some, if_pos (by rw [zdh _ 47 47 rfl, zdi]; simp; omega), zdh _ 47 47 rfl, zdh _ 62 62 rfl, hj3 _ (by simp; omega), if_pos n2]
        simp
      · rw [if_neg n2, if_pos (by rw [zdi]; simp; omega), zdh _ 62 62 rfl, hj3 _ (by simp; omega), if_neg n2]
        simp
  · rw [if_neg k1, if_neg k1, show k + f3.size + 4 = (k + f3.size + 3) + 1 by omega, zaf.j3]
    by_cases k2 : f0 = 2
    · have h0 := h2 k2
      rw [if_pos k2, hw2, if_pos (by omega), if_pos (by omega), show k + f3.size + 3 = (k + f3.size + 2) + 1 by omega, zaf.j4]
      by_cases kp : (zab l0 ((i : Int) - 1)).f0 = 1
      · rw [show ((zab l0 ((i : Int) - 1)).f0 != 1) = false from bne_eq_false_iff_eq.2 kp, if_neg Bool.false_ne_true, if_neg (fun h => h.2 kp), hlast X (by omega)]
        simp
      · have s1 : ((⟨#[60, 47]⟩ : ByteArray) ++ ⟨n.toArray⟩).size = n.length + 2 := by simp [ByteArray.size]
        have s2 : (((⟨#[60, 47]⟩ : ByteArray) ++ ⟨n.toArray⟩) ++ (⟨#[62]⟩ : ByteArray)).size = n.length + 3 := by first | (simp [ByteArray.size]; done) | (simp [ByteArray.size]; omega)
        have b2 : bl (((⟨#[60, 47]⟩ : ByteArray) ++ ⟨n.toArray⟩) ++ (⟨#[62]⟩ : ByteArray)) = 60 :: 47 :: (n ++ [62]) := by simp [bl]
        rw [show ((zab l0 ((i : Int) - 1)).f0 != 1) = true from bne_iff_ne.2 kp, if_pos rfl, if_pos (by rw [sz_l]; omega), if_pos (by rw [s1]; omega), if_pos (by rw [s2]; omega), zee, b2, if_pos ⟨k2, kp⟩, hlast _ (by simp; omega)]
        simp
    · rw [if_neg k2, if_neg (fun h => k2 h.1), show k + f3.size + 3 = (k + f3.size + 2) + 1 by omega, zaf.j4, if_neg Bool.false_ne_true, hlast X (by omega)]
      simp
theorem zgp (l0 : List S60) (j : Nat) (h : j < l0.length) : pcAt (l0.map ofS60) j = ofS60 (zab l0 (j : Int)) := ofS60_at l0 j h
theorem emit_open (l0 : List S60) (i : Nat) (p : S60) (hi : i < l0.length) (hrd : zab l0 (i : Int) = p) (hr : rightP (ofS60 p)) (h1 : p.f0 = 1 → i + 1 < l0.length) (h2 : p.f0 ≠ 1 → 0 < i) : openE l0 i p ++ escL (bl p.f3) = emitA (l0.map ofS60) i := by
  have hpa : pcAt (l0.map ofS60) i = ofS60 p := by rw [zgp l0 i hi, hrd]
  unfold openE emitA
  rw [hpa]
  show _ = if p.f0 = 3 then escL (bl p.f3) else if p.f0 = 1 then 60 :: (nmL p.f1 (bl p.f2) ++ _) else _
  rcases hr with ⟨hk, ht, _⟩ | ⟨hk, _⟩
  · have ht' : bl p.f3 = [] := ht
    have hk' : p.f0 = 1 ∨ p.f0 = 2 := hk
    rw [ht', if_neg (show ¬ p.f0 = 3 by omega)]
    by_cases k1 : p.f0 = 1
    · rw [if_pos k1, if_pos k1, zgp l0 (i + 1) (h1 k1)]
      show _ ++ [] = _
      rw [List.append_nil]
      rfl
    · have k2 : p.f0 = 2 := hk'.resolve_left k1
      have h0 := h2 k1
      rw [if_neg k1, if_neg k1, zgp l0 (i - 1) (by omega), show (((i - 1 : Nat)) : Int) = (i : Int) - 1 by omega]
      show _ ++ [] = _
      rw [List.append_nil]
      by_cases kp : (zab l0 ((i : Int) - 1)).f0 = 1
      · rw [if_neg (fun h => h.2 kp), if_neg (show ¬ (ofS60 (zab l0 ((i : Int) - 1))).kind ≠ 1 from fun h => h kp)]
      · rw [if_pos ⟨k2, kp⟩, if_pos (show (ofS60 (zab l0 ((i : Int) - 1))).kind ≠ 1 from kp)]; rfl
  · have k3 : p.f0 = 3 := hk
    rw [if_neg (show ¬ p.f0 = 1 by omega), if_neg (fun h => by omega), if_pos k3]
    rfl
theorem emit_len (l0 : List S60) (M : Nat) (i : Nat) (p : S60) (hp : sizeOkB M p) : (openE l0 i p ++ escL (bl p.f3)).length ≤ 6 * M + 200 := by
  obtain ⟨h2, h3⟩ := hp
  have h5 := zea (bl p.f3)
  rw [zcl] at h5
  have hnl : (nmL p.f1 (bl p.f2)).length ≤ p.f2.size + 2 := by
    rw [← zcl]; unfold nmL; split
    · simp
    · split <;> simp
  have ha : attrsL.length = 56 := rfl
  have ho : (openE l0 i p).length ≤ M + 100 := by
    unfold openE
    split
    · simp only [List.length_cons, List.length_append, List.length_nil]
      split <;> split <;> simp only [List.length_cons, List.length_nil, ha] <;> omega
    · split
      · simp only [List.length_cons, List.length_append, List.length_nil]; omega
      · simp
  rw [List.length_append]
  omega
theorem print_l0 (l0 : List S60) (M : Nat) (hM : M ≤ 2000000) (hl : l0.length ≤ 1000) (hs : ∀ p ∈ l0, sizeOkB M p) (hc : chkAll (l0.map ofS60)) : ∀ (rest : List S60) (i : Nat), l0.drop i = rest → (outL (l0.map ofS60) i).length ≤ i * (6 * M + 200) →
    ∀ k, rest.length * (M + 7) + 1 ≤ k → i ≤ l0.length → zaf.l0 k l0 (numsL (outL (l0.map ofS60) i)) l0 (l0.length : Int) (i : Int) = some ⟨(outL (l0.map ofS60) l0.length).toArray⟩
  | [], i, hd, hX, k, hk, hle => by
    obtain ⟨k, rfl⟩ : ∃ k', k = k' + 1 := ⟨k - 1, by omega⟩
    have hi : l0.length ≤ i := by
      rcases Nat.lt_or_ge i l0.length with h' | h'
      · rw [List.drop_eq_getElem_cons h'] at hd; cases hd
      · exact h'
    obtain rfl : i = l0.length := by omega
    rw [zaf.l0, if_neg (by omega), nums_str]
  | p :: rest, i, hd, hX, k, hk, hle => by
    obtain ⟨hrd, hi⟩ := zgq l0 i p rest hd
    have hm : p ∈ l0 := by rw [← List.take_append_drop i l0, hd]; simp
    have hp : sizeOkB M p := hs p hm
    have hd' : l0.drop (i + 1) = rest := by rw [← List.drop_drop, hd]; rfl
    have hjm : (l0.map ofS60)[i]? = some (ofS60 p) := by
      have h := zgp l0 i hi
      rw [List.getElem?_map, List.getElem?_eq_getElem hi]
      have : l0[i] = p := by rw [List.drop_eq_getElem_cons hi] at hd; injection hd
      rw [this]; rfl
    obtain ⟨hr, g1, g2⟩ := all_good hc i _ hjm
    rw [List.length_map] at g1
    have hz : p.f1 = 0 ∨ p.f1 = 1 ∨ p.f1 = 2 := by
      rcases hr with ⟨_, _, hz, _⟩ | ⟨_, _, hz, _⟩
      · exact hz
      · exact .inl hz
    have he := emit_open l0 i p hi hrd hr g1 g2
    have hel := emit_len l0 M i p hp
    obtain ⟨s2, s3⟩ := hp
    rw [List.length_cons, Nat.succ_mul] at hk
    obtain ⟨k', rfl⟩ : ∃ k', k = k' + p.f3.size + 7 := ⟨k - p.f3.size - 7, by omega⟩
    have hXb : (outL (l0.map ofS60) i).length ≤ 50000000000 := by
      have : i * (6 * M + 200) ≤ 1000 * (6 * 2000000 + 200) := Nat.mul_le_mul (by omega) (by omega)
      omega
    rw [print_piece l0 M hM hl i p hi hrd ⟨s2, s3⟩ hz g1 (fun k2 => g2 (show (ofS60 p).kind ≠ 1 from fun h => by have : p.f0 = 1 := h; omega)) k' _ hXb, he]
    have hn : outL (l0.map ofS60) i ++ emitA (l0.map ofS60) i = outL (l0.map ofS60) (i + 1) := rfl
    rw [hn]
    refine print_l0 l0 M hM hl hs hc rest (i + 1) hd' ?_ k' (by omega) (by omega)
    rw [← hn, List.length_append, Nat.succ_mul, ← he]
    omega
theorem print_ref (l0 : List S60) (M : Nat) (hM : M ≤ 2000000) (hl : l0.length ≤ 1000) (hs : ∀ p ∈ l0, sizeOkB M p) (hc : chkAll (l0.map ofS60)) (k : Nat) (hk : l0.length * (M + 7) + 1 ≤ k) : zaf.f k l0 = some ⟨(printL (l0.map ofS60)).toArray⟩ := by
  have h := print_l0 l0 M hM hl hs hc l0 0 rfl (by simp [outL]) k hk (by omega)
  unfold zaf.f
  rw [← out_print hc, List.length_map]
  exact h
end Go.Proofs.YtpaopeiegaijiaaGreatDoor.PwXmlWrites
