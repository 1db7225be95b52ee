import Derived.Test.YtjhcbggpbfejgaaXCodecGetsx5
import Derived.Test.YtjhcbggpbfejgaaCq
import Derived.Test.YtjhcbggpbfejgaaCt
/- What the document's own writers compute: enc, encQ, the log's bytes. -/
namespace Go.Proofs.Ytjhcbggpbfejgaa.XCodecGets
open Go.RowKit Go.Proofs.YtjhcbggpbfejgaaW.PrintWords Go.Proofs.YtjhcbggpbfejgaaW.PrintLast Go.Proofs.YtjhcbggpbfejgaaW.PrintMore
open Go.Proofs.Ytjhcbggpbfejgaa.Cp
set_option linter.unusedVariables false

theorem number_step (k : Nat) (l : List Int) (n : Int) (j : Nat) (hj : j < 8) (hl : l.length < 140737488355328) :
    calepinref15_number.l0 (k + 1) l n ((7 - j : Nat) : Int) = calepinref15_number.l0 k (l ++ [byteAt n j]) n ((7 - j : Nat) - 1 : Int) := by
  have hb := byteAt_wrap n j hj
  have e1 : wrap64 (8 * ((7 - j : Nat) : Int)) = ((56 - 8 * j : Nat) : Int) := by unfold wrap64; omega
  have e2 : IntKind.u64.wrap (((56 - 8 * j : Nat) : Int)) = ((56 - 8 * j : Nat) : Int) := by
    obtain h | h | h | h | h | h | h | h : j = 0 ∨ j = 1 ∨ j = 2 ∨ j = 3 ∨ j = 4 ∨ j = 5 ∨ j = 6 ∨ j = 7 := by omega
    all_goals (subst h; rfl)
  have e3 : wrap64 (((7 - j : Nat) : Int) - 1) = ((7 - j : Nat) : Int) - 1 := by unfold wrap64; omega
  rw [calepinref15_number.l0, if_pos (by omega), e1, e2, if_pos (by omega), if_pos hl, e3]
  have e4 : shr .u64 (IntKind.u64.wrap n) ((56 - 8 * j : Nat) : Int) % 256 = byteAt n j := by
    rw [← hb]
    unfold shr
    rw [Int.toNat_natCast, Nat.min_eq_left (by show 56 - 8 * j ≤ 64; omega)]
  rw [e4]
theorem number_go (k : Nat) (l : List Int) (n : Int) (hl : l.length + 8 < 140737488355328) : calepinref15_number.l0 (k + 9) l n 7 = some (l ++ be8 n) := by
  have h0 := number_step (k + 8) l n 0 (by omega) (by omega)
  have h1 := number_step (k + 7) (l ++ [byteAt n 0]) n 1 (by omega) (by simp; omega)
  have h2 := number_step (k + 6) (l ++ [byteAt n 0] ++ [byteAt n 1]) n 2 (by omega) (by simp; omega)
  have h3 := number_step (k + 5) (l ++ [byteAt n 0] ++ [byteAt n 1] ++ [byteAt n 2]) n 3 (by omega) (by simp; omega)
  have h4 := number_step (k + 4) (l ++ [byteAt n 0] ++ [byteAt n 1] ++ [byteAt n 2] ++ [byteAt n 3]) n 4 (by omega) (by simp; omega)
  have h5 := number_step (k + 3) (l ++ [byteAt n 0] ++ [byteAt n 1] ++ [byteAt n 2] ++ [byteAt n 3] ++ [byteAt n 4]) n 5 (by omega) (by simp; omega)
  have h6 := number_step (k + 2) (l ++ [byteAt n 0] ++ [byteAt n 1] ++ [byteAt n 2] ++ [byteAt n 3] ++ [byteAt n 4] ++ [byteAt n 5]) n 6 (by omega) (by simp; omega)
  have h7 := number_step (k + 1) (l ++ [byteAt n 0] ++ [byteAt n 1] ++ [byteAt n 2] ++ [byteAt n 3] ++ [byteAt n 4] ++ [byteAt n 5] ++ [byteAt n 6]) n 7 (by omega) (by simp; omega)
  refine h0.trans (h1.trans (h2.trans (h3.trans (h4.trans (h5.trans (h6.trans (h7.trans ?_)))))))
  rw [calepinref15_number.l0, if_neg (by omega)]
  simp [be8, List.range, List.range.loop]
theorem number_f (k : Nat) (l : List Int) (n : Int) (hl : l.length + 8 < 140737488355328) : calepinref15_number.f (k + 9) l n = some (l ++ be8 n) := number_go k l n hl
theorem text_f (k : Nat) (l : List Int) (s : ByteArray) (hl : l.length + 8 + s.size < 140737488355328) : calepinref15_text.f (k + 9) l s = some (l ++ txt s) := by
  unfold calepinref15_text.f
  rw [number_f k l _ (by omega), Option.bind_some, if_pos (by rw [List.length_append, be8_len]; omega), txt, List.append_assoc]
theorem drop_get {α : Type} (z : α) (l : List α) (j : Nat) (h : j < l.length) : l.drop j = l.getD j z :: l.drop (j + 1) := by
  rw [List.drop_eq_getElem_cons h, List.getD_eq_getElem?_getD, List.getElem?_eq_getElem h]
  rfl
theorem txts_cons (a : ByteArray) (l : List ByteArray) : txts (a :: l) = txt a ++ txts l := by simp [txts]
theorem command_go (k : Nat) (names : List ByteArray) (b0 : Int) (b1 b2 b3 b4 b5 b6 : ByteArray) (b7 : List ByteArray) (b8 b9 b10 : Int) (hn : names.length < 1099511627776) : ∀ (m j : Nat) (x : List Int), m + j = names.length → x.length + (txts (names.drop j)).length + 24 < 140737488355328 →
    calepinref15_Command.l0 (k + 10 + m) x names (names.length : Int) (j : Int) b0 b1 b2 b3 b4 b5 b6 b7 b8 b9 b10 = some (x ++ txts (names.drop j) ++ be8 b8 ++ be8 b9 ++ be8 b10) := by
  intro m
  induction m with
  | zero =>
    intro j x hm hl
    have e : names.drop j = [] := List.drop_eq_nil_of_le (by omega)
    rw [e] at hl ⊢
    simp only [txts, List.flatMap_nil, List.length_nil, List.append_nil] at hl ⊢
    rw [show k + 10 + 0 = (k + 9) + 1 by omega, calepinref15_Command.l0, if_neg (by omega), number_f k x b8 (by omega), Option.bind_some, number_f k _ b9 (by rw [List.length_append, be8_len]; omega), Option.bind_some, number_f k _ b10 (by simp only [List.length_append, be8_len]; omega), Option.bind_some]
  | succ m ih =>
    intro j x hm hl
    have hj : j < names.length := by omega
    have e := drop_get ByteArray.empty names j hj
    rw [e, txts_cons, List.length_append, txt_len] at hl
    have ew : wrap64 ((j : Int) + 1) = ((j + 1 : Nat) : Int) := by unfold wrap64; omega
    have er : rdOf ByteArray.empty names (j : Int) = names.getD j ByteArray.empty := by unfold rdOf; rw [Int.toNat_natCast]
    rw [show k + 10 + (m + 1) = (k + 10 + m) + 1 by omega, calepinref15_Command.l0, if_pos (by omega), if_pos (by omega), if_pos (by omega), er, show k + 10 + m = (k + 1 + m) + 9 by omega, text_f (k + 1 + m) x _ (by omega), Option.bind_some, ew, show k + 1 + m + 9 = k + 10 + m by omega, ih (j + 1) _ (by omega) (by rw [List.length_append, txt_len]; omega), e, txts_cons]
    simp only [List.append_assoc]
theorem command_f (k : Nat) (c : Cmd) (hl : (enc c).length < 1099511627776) (hn : c.names.length ≤ k) : calepinref15_Command.f (k + 10) c.op c.book c.name c.data c.mat c.non c.token c.names c.at_ c.session c.seq = some (enc c) := by
  have hen := enc_len c
  simp only [Cmd.six, txts, List.flatMap_cons, List.flatMap_nil, List.length_append, List.length_nil, txt_len] at hen
  have hnl : 8 * c.names.length ≤ (txts c.names).length := by
    unfold txts
    induction c.names with
    | nil => simp
    | cons a l ih => simp only [List.flatMap_cons, List.length_append, List.length_cons, txt_len]; omega
  unfold txts at hnl
  unfold calepinref15_Command.f
  rw [show k + 10 = (k + 1) + 9 by omega]
  rw [number_f _ _ _ (by simp), Option.bind_some, text_f _ _ _ (by simp only [List.length_append, be8_len, List.length_nil]; omega), Option.bind_some, text_f _ _ _ (by simp only [List.length_append, be8_len, List.length_nil, txt_len]; omega), Option.bind_some, text_f _ _ _ (by simp only [List.length_append, be8_len, List.length_nil, txt_len]; omega), Option.bind_some, text_f _ _ _ (by simp only [List.length_append, be8_len, List.length_nil, txt_len]; omega), Option.bind_some, text_f _ _ _ (by simp only [List.length_append, be8_len, List.length_nil, txt_len]; omega), Option.bind_some, text_f _ _ _ (by simp only [List.length_append, be8_len, List.length_nil, txt_len]; omega), Option.bind_some, number_f _ _ _ (by simp only [List.length_append, be8_len, List.length_nil, txt_len]; omega), Option.bind_some]
  rw [show k + 1 + 9 = (k - c.names.length) + 10 + c.names.length by omega]
  have h := command_go (k - c.names.length) c.names c.op c.book c.name c.data c.mat c.non c.token c.names c.at_ c.session c.seq (by omega) c.names.length 0
  rw [Int.natCast_zero] at h
  rw [h _ (by omega) (by simp only [List.drop_zero, List.length_append, be8_len, List.length_nil, txt_len, txts]; omega)]
  simp [enc, Cmd.six, txts, List.append_assoc]
abbrev q93 : S93 → Cw.Ent := fun x => (x.f0, x.f1, x.f2, x.f3)
theorem ebs_cons (a : S93) (l : List S93) : Cw.ebs q93 (a :: l) = Cw.entB (q93 a) ++ Cw.ebs q93 l := by simp [Cw.ebs]
theorem reply_go (k : Nat) (ents : List S93) (b0 b1 : Int) (b2 : ByteArray) (b3 : List S93) (b4 : ByteArray) (hn : ents.length < 1099511627776) : ∀ (m j : Nat) (x : List Int), m + j = ents.length → x.length + (Cw.ebs q93 (ents.drop j)).length + 8 + b4.size < 140737488355328 →
    calepinref15_Reply.l0 (k + 10 + m) x ents (ents.length : Int) (j : Int) b0 b1 b2 b3 b4 = some (x ++ Cw.ebs q93 (ents.drop j) ++ txt b4) := by
  intro m
  induction m with
  | zero =>
    intro j x hm hl
    have e : ents.drop j = [] := List.drop_eq_nil_of_le (by omega)
    rw [e] at hl ⊢
    simp only [Cw.ebs, List.flatMap_nil, List.length_nil, List.append_nil] at hl ⊢
    rw [show k + 10 + 0 = (k + 9) + 1 by omega, calepinref15_Reply.l0, if_neg (by omega), text_f k x b4 (by omega), Option.bind_some]
  | succ m ih =>
    intro j x hm hl
    have hj : j < ents.length := by omega
    have e := drop_get z93 ents j hj
    rw [e, ebs_cons, List.length_append, Cw.entB_len] at hl
    dsimp only at hl
    have ew : wrap64 ((j : Int) + 1) = ((j + 1 : Nat) : Int) := by unfold wrap64; omega
    have er : rd_T93 ents (j : Int) = ents.getD j z93 := by unfold rd_T93; rw [Int.toNat_natCast]
    rw [show k + 10 + (m + 1) = (k + 10 + m) + 1 by omega, calepinref15_Reply.l0, if_pos (by omega), if_pos (by omega), if_pos (by omega), er, show k + 10 + m = (k + 1 + m) + 9 by omega, text_f (k + 1 + m) x _ (by omega), Option.bind_some, number_f (k + 1 + m) _ _ (by rw [List.length_append, txt_len]; omega), Option.bind_some, text_f (k + 1 + m) _ _ (by simp only [List.length_append, txt_len, be8_len]; omega), Option.bind_some]
    by_cases hb : (ents.getD j z93).f3 = true
    · rw [if_pos hb, if_pos (by simp only [List.length_append, txt_len, be8_len]; omega), ew, show k + 1 + m + 9 = k + 10 + m by omega, ih (j + 1) _ (by omega) (by simp only [List.length_append, txt_len, be8_len, List.length_cons, List.length_nil]; omega), e, ebs_cons]
      simp only [Cw.entB, Cw.bit, hb, if_true, List.append_assoc]
    · rw [if_neg hb, if_pos (by simp only [List.length_append, txt_len, be8_len]; omega), ew, show k + 1 + m + 9 = k + 10 + m by omega, ih (j + 1) _ (by omega) (by simp only [List.length_append, txt_len, be8_len, List.length_cons, List.length_nil]; omega), e, ebs_cons]
      simp only [Cw.entB, Cw.bit, hb, if_false, List.append_assoc, Bool.false_eq_true]
theorem ebs_ge (l : List S93) : 25 * l.length ≤ (Cw.ebs q93 l).length := by
  induction l with
  | nil => simp
  | cons a l ih => rw [ebs_cons, List.length_append, Cw.entB_len, List.length_cons]; omega
theorem reply_f (k : Nat) (st tag : Int) (data : ByteArray) (l : List S93) (token : ByteArray) (hl : (Cw.encQ q93 st tag data l token).length < 1099511627776) (hn : l.length ≤ k) : calepinref15_Reply.f (k + 10) st tag data l token = some (Cw.encQ q93 st tag data l token) := by
  simp only [Cw.encQ, List.length_append, be8_len, txt_len] at hl
  have hge := ebs_ge l
  unfold calepinref15_Reply.f
  rw [show k + 10 = (k + 1) + 9 by omega]
  rw [number_f _ _ _ (by simp), Option.bind_some, number_f _ _ _ (by simp only [List.length_append, be8_len, List.length_nil]; omega), Option.bind_some, text_f _ _ _ (by simp only [List.length_append, be8_len, List.length_nil]; omega), Option.bind_some, number_f _ _ _ (by simp only [List.length_append, be8_len, List.length_nil, txt_len]; omega), Option.bind_some]
  rw [show k + 1 + 9 = (k - l.length) + 10 + l.length by omega]
  have h := reply_go (k - l.length) l st tag data l token (by omega) l.length 0
  rw [Int.natCast_zero] at h
  rw [h _ (by omega) (by simp only [List.drop_zero, List.length_append, be8_len, List.length_nil, txt_len]; omega)]
  simp [Cw.encQ, List.append_assoc]

theorem str_list {a b : ByteArray} (h : a.toList = b.toList) : a = b :=
  ByteArray.ext (Array.ext' (by rw [← Go.ByteArray.toList_eq, ← Go.ByteArray.toList_eq, h]))
theorem enc_inj {c d : Cmd} (hc : c.Ok) (hd : d.Ok) (lc : (enc c).length < 1099511627776) (ld : (enc d).length < 1099511627776) (h : enc c = enc d) : c = d := by
  have h1 := getCommand_enc c hc (by omega)
  rw [h, getCommand_enc d hd (by omega)] at h1
  exact (congrArg Prod.fst h1).symm
theorem zero_ok : zeroCmd.Ok := ⟨by simp [I64, zeroCmd], by simp [I64, zeroCmd], by simp [I64, zeroCmd], by simp [I64, zeroCmd]⟩
theorem zero_len : (enc zeroCmd).length = 88 := by decide +kernel
theorem none_iff (c : Cmd) (hc : c.Ok) (hl : (enc c).length < 1099511627776) : noneB c = true ↔ c = zeroCmd := by
  unfold noneB
  rw [Bool.and_eq_true, decide_eq_true_eq, decide_eq_true_eq]
  constructor
  · rintro ⟨h1, h2⟩
    have h3 : c.names = [] := List.eq_nil_of_length_eq_zero h1
    have e : ({ c with names := [] } : Cmd) = c := by cases c; simp_all
    rw [e] at h2
    exact enc_inj hc zero_ok hl (by rw [zero_len]; omega) h2
  · rintro rfl
    exact ⟨rfl, rfl⟩
theorem size_zero {s : ByteArray} (h : s.size = 0) : s = ⟨#[]⟩ := ByteArray.ext (Array.eq_empty_of_size_eq_zero h)
theorem w64 {a : Int} (h0 : 0 ≤ a) (h1 : a < 9223372036854775808) : wrap64 a = a := by unfold wrap64; omega
theorem zero_f (c : Cmd) (hc : c.Ok) (hl : (enc c).length < 1099511627776) : calepinref15_Zero.f c.op c.book c.name c.data c.mat c.non c.token c.names c.at_ c.session c.seq = some (noneB c) := by
  have hen := enc_len c
  simp only [Cmd.six, txts, List.flatMap_cons, List.flatMap_nil, List.length_append, List.length_nil, txt_len] at hen
  have hnl : 8 * c.names.length ≤ (c.names.flatMap txt).length := by
    induction c.names with
    | nil => simp
    | cons a l ih => simp only [List.flatMap_cons, List.length_append, List.length_cons, txt_len]; omega
  have hw : (wrap64 ((wrap64 ((wrap64 ((wrap64 ((wrap64 ((wrap64 ((c.book.size : Int) + (c.name.size : Int))) + (c.data.size : Int))) + (c.mat.size : Int))) + (c.non.size : Int))) + (c.token.size : Int))) + (c.names.length : Int))) = ((c.book.size + c.name.size + c.data.size + c.mat.size + c.non.size + c.token.size + c.names.length : Nat) : Int) := by
    rw [w64 (a := (c.book.size : Int) + (c.name.size : Int)) (by omega) (by omega), w64 (a := (c.book.size : Int) + (c.name.size : Int) + (c.data.size : Int)) (by omega) (by omega), w64 (a := (c.book.size : Int) + (c.name.size : Int) + (c.data.size : Int) + (c.mat.size : Int)) (by omega) (by omega),
      w64 (a := (c.book.size : Int) + (c.name.size : Int) + (c.data.size : Int) + (c.mat.size : Int) + (c.non.size : Int)) (by omega) (by omega), w64 (a := (c.book.size : Int) + (c.name.size : Int) + (c.data.size : Int) + (c.mat.size : Int) + (c.non.size : Int) + (c.token.size : Int)) (by omega) (by omega), w64 (by omega) (by omega)]
    omega
  unfold calepinref15_Zero.f
  rw [hw]
  by_cases hz : noneB c = true
  · have hcz := (none_iff c hc hl).1 hz
    subst hcz
    rw [hz]
    simp [zeroCmd, show (⟨#[]⟩ : ByteArray).size = 0 from rfl]
  · rw [Bool.eq_false_iff.2 hz]
    have hne : c ≠ zeroCmd := fun e => hz ((none_iff c hc hl).2 e)
    by_cases h0 : c.op = 0
    · rw [if_pos h0]
      by_cases h1 : ((c.book.size + c.name.size + c.data.size + c.mat.size + c.non.size + c.token.size + c.names.length : Nat) : Int) = 0
      · rw [if_pos h1]
        by_cases h2 : c.at_ = 0
        · rw [if_pos h2]
          by_cases h3 : c.session = 0
          · rw [if_pos h3]
            by_cases h4 : c.seq = 0
            · exfalso
              apply hne
              have a1 := size_zero (s := c.book) (by omega)
              have a2 := size_zero (s := c.name) (by omega)
              have a3 := size_zero (s := c.data) (by omega)
              have a4 := size_zero (s := c.mat) (by omega)
              have a5 := size_zero (s := c.non) (by omega)
              have a6 := size_zero (s := c.token) (by omega)
              have a7 : c.names = [] := List.eq_nil_of_length_eq_zero (by omega)
              cases c
              simp_all [zeroCmd]
            · rw [beq_eq_false_iff_ne.2 h4]
          · rw [if_neg h3]
        · rw [if_neg h2]
      · rw [if_neg h1]
    · rw [if_neg h0]
/-- The document's bytes of an entry, and whether it can be. -/
def refLog (l : Log) : List Int × Bool :=
  if l.kind = 0 then (be8 l.term ++ [0], noneB l.cmd && decide (l.nodes.length = 0))
  else if l.kind = 1 then (be8 l.term ++ [1] ++ enc l.cmd, decide (l.nodes.length = 0))
  else if l.kind = 2 then (be8 l.term ++ [2] ++ be8 (l.nodes.length : Int) ++ nums8 l.nodes, noneB l.cmd)
  else ([], false)
theorem nums8_cons (a : Int) (l : List Int) : nums8 (a :: l) = be8 a ++ nums8 l := by simp [nums8]
theorem nums8_len (l : List Int) : (nums8 l).length = 8 * l.length := by
  induction l with
  | nil => rfl
  | cons a l ih => rw [nums8_cons, List.length_append, be8_len, ih, List.length_cons]; omega
theorem log_go (k : Nat) (c : Cmd) (hc : c.Ok) (hlc : (enc c).length < 1099511627776) (nodes : List Int) (b0 b1 : Int) (b13 : List Int) (hn : nodes.length < 1099511627776) : ∀ (m j : Nat) (x : List Int), m + j = nodes.length → x.length + (nums8 (nodes.drop j)).length < 140737488355328 →
    calepinref15_Log.l0 (k + 10 + m) x nodes (nodes.length : Int) (j : Int) b0 b1 c.op c.book c.name c.data c.mat c.non c.token c.names c.at_ c.session c.seq b13 = some (x ++ nums8 (nodes.drop j), noneB c) := by
  intro m
  induction m with
  | zero =>
    intro j x hm hl
    have e : nodes.drop j = [] := List.drop_eq_nil_of_le (by omega)
    rw [e, show k + 10 + 0 = (k + 9) + 1 by omega, calepinref15_Log.l0, if_neg (by omega), zero_f c hc hlc, Option.bind_some]
    simp [nums8]
  | succ m ih =>
    intro j x hm hl
    have hj : j < nodes.length := by omega
    have e := drop_get (0 : Int) nodes j hj
    rw [e, nums8_cons, List.length_append, be8_len] at hl
    have ew : wrap64 ((j : Int) + 1) = ((j + 1 : Nat) : Int) := by unfold wrap64; omega
    have er : rd nodes (j : Int) = nodes.getD j 0 := by unfold rd; rw [Int.toNat_natCast]
    rw [show k + 10 + (m + 1) = (k + 10 + m) + 1 by omega, calepinref15_Log.l0, if_pos (by omega), if_pos (by omega), if_pos (by omega), er, show k + 10 + m = (k + 1 + m) + 9 by omega, number_f (k + 1 + m) x _ (by omega), Option.bind_some, ew, show k + 1 + m + 9 = k + 10 + m by omega, ih (j + 1) _ (by omega) (by rw [List.length_append, be8_len]; omega), e, nums8_cons]
    simp only [List.append_assoc]
theorem log_f (k : Nat) (l : Log) (hc : l.cmd.Ok) (hlc : (enc l.cmd).length < 1099511627776) (hn : l.cmd.names.length ≤ k) (hm : l.nodes.length ≤ k) (hk : l.nodes.length < 1099511627776) :
    calepinref15_Log.f (k + 10) l.term l.kind l.cmd.op l.cmd.book l.cmd.name l.cmd.data l.cmd.mat l.cmd.non l.cmd.token l.cmd.names l.cmd.at_ l.cmd.session l.cmd.seq l.nodes = some (refLog l) := by
  unfold calepinref15_Log.f refLog
  rw [show k + 10 = (k + 1) + 9 by omega, number_f _ _ _ (by simp), show k + 1 + 9 = k + 10 by omega, Option.bind_some]
  rw [Option.bind_some, if_pos (by simp [be8_len]), Option.bind_some]
  by_cases h0 : l.kind = 0
  · rw [if_pos h0, if_pos h0, zero_f l.cmd hc hlc, Option.bind_some, h0]
    by_cases hz : noneB l.cmd = true
    · rw [if_pos hz, hz]
      simp only [List.nil_append, Bool.true_and]
      congr 2
      by_cases hl : l.nodes.length = 0
      · simp [hl]
      · rw [decide_eq_false hl, beq_eq_false_iff_ne.2 (by omega)]
    · rw [if_neg hz, Bool.eq_false_iff.2 hz]
      simp
  · rw [if_neg h0, if_neg h0]
    by_cases h1 : l.kind = 1
    · rw [if_pos h1, if_pos h1, command_f k l.cmd hlc hn, Option.bind_some, h1, if_pos (by simp only [List.length_append, be8_len, List.length_nil, List.length_cons]; omega)]
      simp only [List.nil_append]
      congr 2
      by_cases hl : l.nodes.length = 0
      · simp [hl]
      · rw [decide_eq_false hl, beq_eq_false_iff_ne.2 (by omega)]
    · rw [if_neg h1, if_neg h1]
      by_cases h2 : l.kind = 2
      · rw [if_pos h2, if_pos h2, show k + 10 = (k + 1) + 9 by omega, number_f _ _ _ (by simp [be8_len]), Option.bind_some, h2]
        have h := log_go (k - l.nodes.length) l.cmd hc hlc l.nodes l.term l.kind l.nodes hk l.nodes.length 0
        rw [Int.natCast_zero, h2] at h
        rw [show k + 1 + 9 = (k - l.nodes.length) + 10 + l.nodes.length by omega, h _ (by omega) (by simp only [List.drop_zero, nums8_len, List.length_append, be8_len, List.length_nil, List.length_cons]; omega)]
        simp
      · rw [if_neg h2, if_neg h2]
theorem putLog_ref (l : Log) : putLog l = if (refLog l).2 = true then some (refLog l).1 else none := by
  unfold putLog refLog
  by_cases h0 : l.kind = 0
  · simp only [h0, if_true, Bool.and_eq_true, decide_eq_true_eq]
  · simp only [h0, if_false]
    by_cases h1 : l.kind = 1
    · simp only [h1, if_true, decide_eq_true_eq]
    · simp only [h1, if_false]
      by_cases h2 : l.kind = 2
      · simp only [h2, if_true, List.append_assoc]
      · simp [h2]
theorem refLog_len (l : Log) : (refLog l).1.length ≤ 17 + (enc l.cmd).length + 8 * l.nodes.length := by
  unfold refLog
  split
  · simp [be8_len]; omega
  · split
    · simp only [List.length_append, be8_len, List.length_cons, List.length_nil]; omega
    · split
      · simp only [List.length_append, be8_len, List.length_cons, List.length_nil, nums8_len]; omega
      · simp
theorem refLog_bs (l : Log) : Bs (refLog l).1 := by
  have h : ∀ n : Int, 0 ≤ n → n < 256 → Bs [n] := fun n h0 h1 x hx => by rw [List.mem_singleton.1 hx]; exact ⟨h0, h1⟩
  unfold refLog
  split
  · exact (Bs.be8 _).append (h 0 (by decide) (by decide))
  · split
    · exact ((Bs.be8 _).append (h 1 (by decide) (by decide))).append (Bs.enc _)
    · split
      · exact (((Bs.be8 _).append (h 2 (by decide) (by decide))).append (Bs.be8 _)).append (Bs.nums8 _)
      · intro x hx; simp at hx
end Go.Proofs.Ytjhcbggpbfejgaa.XCodecGets
