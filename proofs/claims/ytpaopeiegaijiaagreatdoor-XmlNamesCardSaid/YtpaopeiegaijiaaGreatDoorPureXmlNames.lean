import Derived.Test.YtpaopeiegaijiaaGreatDoorXXmlNamesx5
import Derived.Test.YtpaopeiegaijiaaGreatDoorXpN
/- XmlNames: documents with prefixes of one's own. -/
namespace Go.Proofs.YtpaopeiegaijiaaGreatDoor.PureXmlNames
open Go.RowKit Go.Proofs.YtpaopeiegaijiaaGreatDoor Go.Proofs.YtpaopeiegaijiaaGreatDoor.XXmlNames Go.Proofs.YtpaopeiegaijiaaGreatDoorW.PrintWords Go.Proofs.YtpaopeiegaijiaaGreatDoorW.PrintLast
set_option linter.unusedVariables false
set_option linter.unusedSimpArgs false
set_option maxRecDepth 100000 in
theorem first_true : calepinlaw07_first.f 300 = some true := by kernel_rfl
theorem first_more : ∀ m, calepinlaw07_first.f (300 + m) = some true
  | 0 => first_true
  | m + 1 => calepinlaw07_first.mono (300 + m) _ (first_more m)
theorem rfirst_f (c : UInt8) : calepinref07_first.f (c.toNat : Int) = some (letB c) := by
  have := byte_all (p := fun c => calepinref07_first.f (c.toNat : Int) == some (letB c)) (by decide +kernel) c
  exact beq_iff_eq.1 this
theorem rname_step (c : UInt8) (X T R : Option Int) (hy : nameB c = true → X = R) (hn : nameB c = false → T = R) :
    (if letB c = true then X else (if (c.toNat : Int) ≥ 48 then (if (c.toNat : Int) ≤ 57 then X else (if (c.toNat : Int) = 45 then X else (if (c.toNat : Int) = 46 then X else T))) else (if (c.toNat : Int) = 45 then X else (if (c.toNat : Int) = 46 then X else T)))) = R := by
  have h := lead_step c 1 (by decide) X T R hy hn
  rw [if_pos (show ((1 : Nat) : Int) > 0 by decide)] at h
  exact h
theorem rname_l0 (l : List UInt8) (hl : l.length ≤ 9223372036854775806) : ∀ (j k i : Nat), i + j = l.length → j + 1 ≤ k → 0 < i →
    calepinref07_Name.l0 k ⟨l.toArray⟩ 0 (i : Int) = some ((capN (i + ((l.drop i).takeWhile nameB).length) : Nat) : Int) := by
  have hz := sz_l l
  intro j
  induction j with
  | zero =>
    intro k i hi hk h0
    obtain ⟨k, rfl⟩ : ∃ k', k = k' + 1 := ⟨k - 1, by omega⟩
    rw [calepinref07_Name.l0, wrapE ((0 : Int) + i) i (by omega) (by omega), if_neg (by omega), List.drop_of_length_le (by omega), cap_if]
    rfl
  | succ j ih =>
    intro k i hi hk h0
    obtain ⟨k, rfl⟩ : ∃ k', k = k' + 1 := ⟨k - 1, by omega⟩
    have hlt : i < l.length := by omega
    have hd := List.drop_eq_getElem_cons hlt
    have hn := ih k (i + 1) (by omega) (by omega) (by omega)
    have hb := bt_l l i hlt
    rw [calepinref07_Name.l0, wrapE ((0 : Int) + i) i (by omega) (by omega), if_pos (by omega), if_pos (by omega), hb, rfirst_f, Option.bind_some, wrapE ((i : Int) + 1) (i + 1) (by omega) (by omega), hn, hd, cap_if]
    generalize l[i] = c
    refine rname_step c _ _ _ (fun h => ?_) (fun h => ?_)
    · rw [List.takeWhile_cons_of_pos h, List.length_cons, show i + ((List.takeWhile nameB (List.drop (i + 1) l)).length + 1) = i + 1 + (List.takeWhile nameB (List.drop (i + 1) l)).length by omega]
    · rw [List.takeWhile_cons_of_neg (by rw [h]; simp)]
      rfl
theorem rname_f (l : List UInt8) (hl : l.length ≤ 9223372036854775806) (k : Nat) (hk : l.length + 3 ≤ k) : calepinref07_Name.f k ⟨l.toArray⟩ 0 = some ((leadL l : Nat) : Int) := by
  obtain ⟨k, rfl⟩ : ∃ k', k = k' + 1 := ⟨k - 1, by omega⟩
  have hz := sz_l l
  unfold calepinref07_Name.f leadL
  cases l with
  | nil => rw [if_pos (by rw [hz]; simp)]; rfl
  | cons c l =>
    have hb : bt ⟨(c :: l).toArray⟩ 0 = (c.toNat : Int) := bt_l (c :: l) 0 (by simp)
    have h1 := rname_l0 (c :: l) hl l.length k 1 (by simp; omega) (by simp at hk; omega) (by omega)
    rw [List.drop_one, List.tail_cons] at h1
    simp only [List.length_cons] at hz hl hk
    rw [if_neg (by omega), if_pos (by omega), if_pos (by omega), hb, rfirst_f, Option.bind_some, nameN, calepinref07_Name.j0]
    by_cases h : letB c = true
    · rw [h, if_neg (by decide), if_pos rfl]; exact h1
    · have h' : letB c = false := by simpa using h
      rw [h', if_pos (by decide), if_neg (by decide)]; rfl
theorem okN_of {l : List UInt8} (h : leadL l = l.length) (h0 : l ≠ []) : okN l := by
  have hp : 0 < l.length := List.length_pos_iff.2 h0
  unfold leadL capN at h
  split at h
  · omega
  · exact ⟨h0, h, by omega⟩
def resP : Option (List Pc) → List S60 × Int
  | none => ([], 70)
  | some ps => (ps.map toS60, 0)
theorem parse_val (s : ByteArray) (l : List UInt8) (hl : s.data.toList = l) (hlen : l.length ≤ 65536) (hv : okL l = true) (r : Option (List Pc)) (hd : docL (l.length + 1) l = some r) :
    xml_Parse.f s = some (resP r) := by
  subst hl
  have hs : s.size = s.data.toList.length := rfl
  have hvb : validB ⟨s.data.toList.toArray⟩ = true := by rw [validB_eq]; exact hv
  unfold xml_Parse.f parseL
  rw [if_pos (by omega), if_neg (by omega), hvb, if_neg (by decide), hs, hd]
  cases r <;> rfl
theorem names_j0 (k : Nat) (p n : List UInt8) (hp : okN p) (hn : okN n) (b : Bool) : calepinlaw07_XmlNames.j0 (k + 1) ⟨p.toArray⟩ ⟨n.toArray⟩ b false = some true := by
  have hpl := hp.2.2
  have hnl := hn.2.2
  have app := name_plain hp
  have apn := name_plain hn
  have e3 : ((((⟨#[60]⟩ : ByteArray) ++ ⟨p.toArray⟩) ++ (⟨#[58]⟩ : ByteArray)) ++ ⟨n.toArray⟩ ++ (⟨#[47, 62]⟩ : ByteArray)).data.toList = 60 :: (p ++ 58 :: (n ++ [47, 62])) := by simp
  have v3 := parse_val _ _ e3 (by simp; omega) (plain_ok _ (by simp [app, apn]; decide)) none (doc_none _ p n hp hn)
  rw [calepinlaw07_XmlNames.j0, if_neg (by decide)]
  iterate 6 rw [if_pos (by simp [ByteArray.size]; omega)]
  cases b with
  | true =>
    rw [if_pos rfl]
    iterate 6 rw [if_pos (by simp [ByteArray.size]; omega)]
    have e1 : (((((((⟨#[60, 111, 32, 120, 109, 108, 110, 115, 58]⟩ : ByteArray) ++ ⟨p.toArray⟩) ++ (⟨#[61, 39, 68, 65, 86, 58, 39, 32, 120, 109, 108, 110, 115, 61, 39, 117, 114, 110, 58, 120, 39, 62, 60]⟩ : ByteArray)) ++ ⟨p.toArray⟩) ++ (⟨#[58]⟩ : ByteArray)) ++ ⟨n.toArray⟩) ++ (⟨#[47, 62, 60, 47, 111, 62]⟩ : ByteArray)).data.toList = 60 :: ([111] ++ 32 :: ([120, 109, 108, 110, 115] ++ 58 :: (p ++ 61 :: 39 :: ([68, 65, 86, 58] ++ 39 :: 32 :: ([120, 109, 108, 110, 115] ++ 61 :: 39 :: ([117, 114, 110, 58, 120] ++ 39 :: 62 :: 60 :: (p ++ 58 :: (n ++ [47, 62, 60, 47, 111, 62])))))))) := by simp
    have v1 := parse_val _ _ e1 (by simp; omega) (plain_ok _ (by simp [app, apn]; decide)) (some _) (doc_around' _ (by simp) p n hp hn)
    rw [v1, Option.bind_some]
    rw [if_pos (by simp [ByteArray.size]; omega), v3, Option.bind_some]
    simp [resP, rd_T60, toS60, opnP, clsP]
  | false =>
    rw [if_neg (by decide)]
    have e2 : (((((((⟨#[60]⟩ : ByteArray) ++ ⟨p.toArray⟩) ++ (⟨#[58]⟩ : ByteArray)) ++ ⟨n.toArray⟩) ++ (⟨#[32, 120, 109, 108, 110, 115, 58]⟩ : ByteArray)) ++ ⟨p.toArray⟩) ++ (⟨#[61, 39, 68, 65, 86, 58, 39, 47, 62]⟩ : ByteArray)).data.toList = 60 :: (p ++ 58 :: (n ++ 32 :: ([120, 109, 108, 110, 115] ++ 58 :: (p ++ 61 :: 39 :: ([68, 65, 86, 58] ++ 39 :: [47, 62]))))) := by simp
    have v2 := parse_val _ _ e2 (by simp; omega) (plain_ok _ (by simp [app, apn]; decide)) (some _) (doc_self _ p n hp hn)
    rw [v2, Option.bind_some]
    rw [if_pos (by simp [ByteArray.size]; omega), v3, Option.bind_some]
    simp [resP, rd_T60, toS60, opnP, clsP]
theorem XmlNames : calepinlaw07_XmlNames.Pure := by
  intro a0 a1 a2 h0 h1
  obtain ⟨p, rfl⟩ : ∃ p : List UInt8, a0 = ⟨p.toArray⟩ := ⟨bl a0, (bl_mk a0).symm⟩
  obtain ⟨n, rfl⟩ : ∃ n : List UInt8, a1 = ⟨n.toArray⟩ := ⟨bl a1, (bl_mk a1).symm⟩
  rw [sz_l] at h0 h1
  refine ⟨300 + p.length + n.length + 1, ?_⟩
  have hf : calepinlaw07_first.f (300 + p.length + n.length + 1) = some true := by rw [show 300 + p.length + n.length + 1 = 300 + (p.length + n.length + 1) by omega]; exact first_more _
  rw [calepinlaw07_XmlNames.f, hf, Option.bind_some, if_pos rfl, rname_f p (by omega) _ (by omega), Option.bind_some, rname_f n (by omega) _ (by omega), Option.bind_some, sz_l, sz_l]
  have ht : calepinlaw07_XmlNames.j0 (300 + p.length + n.length + 1) ⟨p.toArray⟩ ⟨n.toArray⟩ a2 true = some true := by rw [calepinlaw07_XmlNames.j0, if_pos rfl]
  by_cases c1 : ((leadL p : Nat) : Int) = (p.length : Int)
  · rw [if_pos c1]
    by_cases c2 : ((leadL n : Nat) : Int) = (n.length : Int)
    · rw [if_pos c2]
      by_cases c3 : ((leadL n : Nat) : Int) = 0
      · rw [if_pos c3]; exact ht
      · rw [if_neg c3]
        by_cases c4 : leadL p = 0
        · rw [show (((leadL p : Nat) : Int) == 0) = true by rw [c4]; rfl]; exact ht
        · rw [show (((leadL p : Nat) : Int) == 0) = false from beq_eq_false_iff_ne.2 (by omega)]
          refine names_j0 _ p n (okN_of (by omega) (fun e => ?_)) (okN_of (by omega) (fun e => ?_)) a2
          · subst e; exact c4 rfl
          · subst e; exact c3 rfl
    · rw [if_neg c2]; exact ht
  · rw [if_neg c1]; exact ht
end Go.Proofs.YtpaopeiegaijiaaGreatDoor.PureXmlNames
