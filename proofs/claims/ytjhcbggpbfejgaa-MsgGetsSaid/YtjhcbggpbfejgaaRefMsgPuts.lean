/- What the document's own writers compute: commands, entries, messages. -/
import Derived.Test.YtjhcbggpbfejgaaXMsgPutsx4
import Derived.Test.YtjhcbggpbfejgaaMz
import Derived.Test.YtjhcbggpbfejgaaMf
import Derived.Test.YtjhcbggpbfejgaaL3
import Derived.Deep.QuietTactic
import Derived.Deep.RegionWith
import Derived.Deep.RegionLaw
namespace Go.Proofs.Ytjhcbggpbfejgaa.XMsgPuts
open Go.RowKit Go.Proofs.zjt.zjq Go.Proofs.zjt.zjr Go.Proofs.zjt.zjs
open Go.Proofs.Ytjhcbggpbfejgaa.Cp Go.Proofs.Ytjhcbggpbfejgaa.Mk Go.Proofs.Ytjhcbggpbfejgaa.Mq Go.Proofs.Ytjhcbggpbfejgaa.Mz
set_option linter.unusedVariables false
set_option linter.unusedSimpArgs false
theorem zds (k : Nat) (l : List Int) (n : Int) (j : Nat) (hj : j < 8) (hl : l.length < 140737488355328) :
    zao.l0 (k + 1) l n ((7 - j : Nat) : Int) = zao.l0 k (l ++ [byteAt n j]) n ((7 - j : Nat) - 1 : Int) := by
  have hb := zfs n j hj
  have e1 : wrap64 (8 * ((7 - j : Nat) : Int)) = ((56 - 8 * j : Nat) : Int) := by unfold wrap64; omega
  have e2 : IntKind.u64.wrap (((56 - 8 * j : Nat) : Int)) = ((56 - 8 * j : Nat) : Int) := by
    obtain h | h | h | h | h | h | h | h : j = 0 ∨ j = 1 ∨ j = 2 ∨ j = 3 ∨ j = 4 ∨ j = 5 ∨ j = 6 ∨ j = 7 := by omega
    all_goals (subst h; rfl)
  have e3 : wrap64 (((7 - j : Nat) : Int) - 1) = ((7 - j : Nat) : Int) - 1 := by unfold wrap64; omega
  rw [zao.l0, if_pos (by omega), e1, e2, if_pos (by omega), if_pos hl, e3]
  have e4 : shr .u64 (IntKind.u64.wrap n) ((56 - 8 * j : Nat) : Int) % 256 = byteAt n j := by
    rw [← hb]
    unfold shr
    rw [Int.toNat_natCast, Nat.min_eq_left (by show 56 - 8 * j ≤ 64; omega)]
  rw [e4]
theorem number_go (k : Nat) (l : List Int) (n : Int) (hl : l.length + 8 < 140737488355328) : zao.l0 (k + 9) l n 7 = some (l ++ be8 n) := by
  have h0 := zds (k + 8) l n 0 (by omega) (by omega)
  have h1 := zds (k + 7) (l ++ [byteAt n 0]) n 1 (by omega) (by simp; omega)
  have h2 := zds (k + 6) (l ++ [byteAt n 0] ++ [byteAt n 1]) n 2 (by omega) (by simp; omega)
  have h3 := zds (k + 5) (l ++ [byteAt n 0] ++ [byteAt n 1] ++ [byteAt n 2]) n 3 (by omega) (by simp; omega)
  have h4 := zds (k + 4) (l ++ [byteAt n 0] ++ [byteAt n 1] ++ [byteAt n 2] ++ [byteAt n 3]) n 4 (by omega) (by simp; omega)
  have h5 := zds (k + 3) (l ++ [byteAt n 0] ++ [byteAt n 1] ++ [byteAt n 2] ++ [byteAt n 3] ++ [byteAt n 4]) n 5 (by omega) (by simp; omega)
  have h6 := zds (k + 2) (l ++ [byteAt n 0] ++ [byteAt n 1] ++ [byteAt n 2] ++ [byteAt n 3] ++ [byteAt n 4] ++ [byteAt n 5]) n 6 (by omega) (by simp; omega)
  have h7 := zds (k + 1) (l ++ [byteAt n 0] ++ [byteAt n 1] ++ [byteAt n 2] ++ [byteAt n 3] ++ [byteAt n 4] ++ [byteAt n 5] ++ [byteAt n 6]) n 7 (by omega) (by simp; omega)
  refine h0.trans (h1.trans (h2.trans (h3.trans (h4.trans (h5.trans (h6.trans (h7.trans ?_)))))))
  rw [zao.l0, if_neg (by omega)]
  simp [be8, List.range, List.range.loop]
theorem zew (k : Nat) (l : List Int) (n : Int) (hl : l.length + 8 < 140737488355328) : zao.f (k + 9) l n = some (l ++ be8 n) := number_go k l n hl
theorem zia (k : Nat) (l : List Int) (s : ByteArray) (hl : l.length + 8 + s.size < 140737488355328) : zau.f (k + 9) l s = some (l ++ txt s) := by
  unfold zau.f
  rw [zew k l _ (by omega), Option.bind_some, if_pos (by rw [List.length_append, zbo]; omega), txt, List.append_assoc]
theorem zhv {α : Type} (z : α) (l : List α) (j : Nat) (h : j < l.length) : l.drop j = l.getD j z :: l.drop (j + 1) := by
  rw [List.drop_eq_getElem_cons h, List.getD_eq_getElem?_getD, List.getElem?_eq_getElem h]
  rfl
theorem txts_cons (a : ByteArray) (l : List ByteArray) : txts (a :: l) = txt a ++ txts l := by simp [txts]
theorem command_go (k : Nat) (names : List ByteArray) (b0 : Int) (b1 b2 b3 b4 b5 b6 : ByteArray) (b7 : List ByteArray) (b8 b9 b10 : Int) (hn : names.length < 1099511627776) : ∀ (m j : Nat) (x : List Int), m + j = names.length → x.length + (txts (names.drop j)).length + 24 < 140737488355328 →
    zbc.l0 (k + 10 + m) x names (names.length : Int) (j : Int) b0 b1 b2 b3 b4 b5 b6 b7 b8 b9 b10 = some (x ++ txts (names.drop j) ++ be8 b8 ++ be8 b9 ++ be8 b10) := by
  intro m
  induction m with
  | zero =>
    intro j x hm hl
    have e : names.drop j = [] := List.drop_eq_nil_of_le (by omega)
    rw [e] at hl ⊢
    simp only [txts, List.flatMap_nil, List.length_nil, List.append_nil] at hl ⊢
    rw [show k + 10 + 0 = (k + 9) + 1 by omega, zbc.l0, if_neg (by omega), zew k x b8 (by omega), Option.bind_some, zew k _ b9 (by rw [List.length_append, zbo]; omega), Option.bind_some, zew k _ b10 (by simp only [List.length_append, zbo]; omega), Option.bind_some]
  | succ m ih =>
    intro j x hm hl
    have hj : j < names.length := by omega
    have e := zhv ByteArray.empty names j hj
    rw [e, txts_cons, List.length_append, zdh] at hl
    have ew : wrap64 ((j : Int) + 1) = ((j + 1 : Nat) : Int) := by unfold wrap64; omega
    have er : rdOf ByteArray.empty names (j : Int) = names.getD j ByteArray.empty := by unfold rdOf; rw [Int.toNat_natCast]
    rw [show k + 10 + (m + 1) = (k + 10 + m) + 1 by omega, zbc.l0, if_pos (by omega), if_pos (by omega), if_pos (by omega), er, show k + 10 + m = (k + 1 + m) + 9 by omega, zia (k + 1 + m) x _ (by omega), Option.bind_some, ew, show k + 1 + m + 9 = k + 10 + m by omega, ih (j + 1) _ (by omega) (by rw [List.length_append, zdh]; omega), e, txts_cons]
    simp only [List.append_assoc]
theorem command_f (k : Nat) (c : Cmd) (hl : (enc c).length < 1099511627776) (hn : c.names.length ≤ k) : zbc.f (k + 10) c.op c.book c.name c.data c.mat c.non c.token c.names c.at_ c.session c.seq = some (enc c) := by
  have hen := zhk c
  simp only [Cmd.six, txts, List.flatMap_cons, List.flatMap_nil, List.length_append, List.length_nil, zdh] at hen
  have hnl : 8 * c.names.length ≤ (txts c.names).length := by
    unfold txts
    induction c.names with
    | nil => simp
    | cons a l ih => simp only [List.flatMap_cons, List.length_append, List.length_cons, zdh]; omega
  unfold txts at hnl
  unfold zbc.f
  rw [show k + 10 = (k + 1) + 9 by omega]
  rw [zew _ _ _ (by simp), Option.bind_some, zia _ _ _ (by simp only [List.length_append, zbo, List.length_nil]; omega), Option.bind_some, zia _ _ _ (by simp only [List.length_append, zbo, List.length_nil, zdh]; omega), Option.bind_some, zia _ _ _ (by simp only [List.length_append, zbo, List.length_nil, zdh]; omega), Option.bind_some, zia _ _ _ (by simp only [List.length_append, zbo, List.length_nil, zdh]; omega), Option.bind_some, zia _ _ _ (by simp only [List.length_append, zbo, List.length_nil, zdh]; omega), Option.bind_some, zia _ _ _ (by simp only [List.length_append, zbo, List.length_nil, zdh]; omega), Option.bind_some, zew _ _ _ (by simp only [List.length_append, zbo, List.length_nil, zdh]; omega), Option.bind_some]
  rw [show k + 1 + 9 = (k - c.names.length) + 10 + c.names.length by omega]
  have h := command_go (k - c.names.length) c.names c.op c.book c.name c.data c.mat c.non c.token c.names c.at_ c.session c.seq (by omega) c.names.length 0
  rw [Int.natCast_zero] at h
  rw [h _ (by omega) (by simp only [List.drop_zero, List.length_append, zbo, List.length_nil, zdh, txts]; omega)]
  simp [enc, Cmd.six, txts, List.append_assoc]
theorem zfm {s : ByteArray} (h : s.size = 0) : s = ⟨#[]⟩ := ByteArray.ext (Array.eq_empty_of_size_eq_zero h)
theorem w64 {a : Int} (h0 : 0 ≤ a) (h1 : a < 9223372036854775808) : wrap64 a = a := by unfold wrap64; omega
theorem zero_f (c : Cmd) (hc : c.Ok) (hl : (enc c).length < 1099511627776) : zbp.f c.op c.book c.name c.data c.mat c.non c.token c.names c.at_ c.session c.seq = some (noneB c) := by
  have hen := zhk c
  simp only [Cmd.six, txts, List.flatMap_cons, List.flatMap_nil, List.length_append, List.length_nil, zdh] at hen
  have hnl : 8 * c.names.length ≤ (c.names.flatMap txt).length := by
    induction c.names with
    | nil => simp
    | cons a l ih => simp only [List.flatMap_cons, List.length_append, List.length_cons, zdh]; omega
  have hw : (wrap64 ((wrap64 ((wrap64 ((wrap64 ((wrap64 ((wrap64 ((c.book.size : Int) + (c.name.size : Int))) + (c.data.size : Int))) + (c.mat.size : Int))) + (c.non.size : Int))) + (c.token.size : Int))) + (c.names.length : Int))) = ((c.book.size + c.name.size + c.data.size + c.mat.size + c.non.size + c.token.size + c.names.length : Nat) : Int) := by
    rw [w64 (a := (c.book.size : Int) + (c.name.size : Int)) (by omega) (by omega), w64 (a := (c.book.size : Int) + (c.name.size : Int) + (c.data.size : Int)) (by omega) (by omega), w64 (a := (c.book.size : Int) + (c.name.size : Int) + (c.data.size : Int) + (c.mat.size : Int)) (by omega) (by omega),
      w64 (a := (c.book.size : Int) + (c.name.size : Int) + (c.data.size : Int) + (c.mat.size : Int) + (c.non.size : Int)) (by omega) (by omega), w64 (a := (c.book.size : Int) + (c.name.size : Int) + (c.data.size : Int) + (c.mat.size : Int) + (c.non.size : Int) + (c.token.size : Int)) (by omega) (by omega), w64 (by omega) (by omega)]
    omega
  unfold zbp.f
  rw [hw]
  by_cases hz : noneB c = true
  · have hcz := (zhs c hc hl).1 hz
    subst hcz
    rw [hz]
    simp [zeroCmd, show (⟨#[]⟩ : ByteArray).size = 0 from rfl]
  · rw [Bool.eq_false_iff.2 hz]
    have hne : c ≠ zeroCmd := fun e => hz ((zhs c hc hl).2 e)
    by_cases h0 : c.op = 0
    · rw [if_pos h0]
      by_cases h1 : ((c.book.size + c.name.size + c.data.size + c.mat.size + c.non.size + c.token.size + c.names.length : Nat) : Int) = 0
      · rw [if_pos h1]
        by_cases h2 : c.at_ = 0
        · rw [if_pos h2]
          by_cases h3 : c.session = 0
          · rw [if_pos h3]
            by_cases h4 : c.seq = 0
            · exfalso
              apply hne
              have a1 := zfm (s := c.book) (by omega)
              have a2 := zfm (s := c.name) (by omega)
              have a3 := zfm (s := c.data) (by omega)
              have a4 := zfm (s := c.mat) (by omega)
              have a5 := zfm (s := c.non) (by omega)
              have a6 := zfm (s := c.token) (by omega)
              have a7 : c.names = [] := List.eq_nil_of_length_eq_zero (by omega)
              cases c
              simp_all [zeroCmd]
            · rw [beq_eq_false_iff_ne.2 h4]
          · rw [if_neg h3]
        · rw [if_neg h2]
      · rw [if_neg h1]
    · rw [if_neg h0]
theorem log_go (k : Nat) (c : Cmd) (hc : c.Ok) (hlc : (enc c).length < 1099511627776) (nodes : List Int) (b0 b1 : Int) (b13 : List Int) (hn : nodes.length < 1099511627776) : ∀ (m j : Nat) (x : List Int), m + j = nodes.length → x.length + (nums8 (nodes.drop j)).length < 140737488355328 →
    zaq.l0 (k + 10 + m) x nodes (nodes.length : Int) (j : Int) b0 b1 c.op c.book c.name c.data c.mat c.non c.token c.names c.at_ c.session c.seq b13 = some (x ++ nums8 (nodes.drop j), noneB c) := by
  intro m
  induction m with
  | zero =>
    intro j x hm hl
    have e : nodes.drop j = [] := List.drop_eq_nil_of_le (by omega)
    rw [e, show k + 10 + 0 = (k + 9) + 1 by omega, zaq.l0, if_neg (by omega), zero_f c hc hlc, Option.bind_some]
    simp [nums8]
  | succ m ih =>
    intro j x hm hl
    have hj : j < nodes.length := by omega
    have e := zhv (0 : Int) nodes j hj
    rw [e, zeg, List.length_append, zbo] at hl
    have ew : wrap64 ((j : Int) + 1) = ((j + 1 : Nat) : Int) := by unfold wrap64; omega
    have er : rd nodes (j : Int) = nodes.getD j 0 := by unfold rd; rw [Int.toNat_natCast]
    rw [show k + 10 + (m + 1) = (k + 10 + m) + 1 by omega, zaq.l0, if_pos (by omega), if_pos (by omega), if_pos (by omega), er, show k + 10 + m = (k + 1 + m) + 9 by omega, zew (k + 1 + m) x _ (by omega), Option.bind_some, ew, show k + 1 + m + 9 = k + 10 + m by omega, ih (j + 1) _ (by omega) (by rw [List.length_append, zbo]; omega), e, zeg]
    simp only [List.append_assoc]
theorem log_f (k : Nat) (l : Log) (hc : l.cmd.Ok) (hlc : (enc l.cmd).length < 1099511627776) (hn : l.cmd.names.length ≤ k) (hm : l.nodes.length ≤ k) (hk : l.nodes.length < 1099511627776) :
    zaq.f (k + 10) l.term l.kind l.cmd.op l.cmd.book l.cmd.name l.cmd.data l.cmd.mat l.cmd.non l.cmd.token l.cmd.names l.cmd.at_ l.cmd.session l.cmd.seq l.nodes = some (refLog l) := by
  unfold zaq.f refLog
  rw [show k + 10 = (k + 1) + 9 by omega, zew _ _ _ (by simp), show k + 1 + 9 = k + 10 by omega, Option.bind_some]
  rw [Option.bind_some, if_pos (by simp [zbo]), Option.bind_some]
  by_cases h0 : l.kind = 0
  · rw [if_pos h0, if_pos h0, zero_f l.cmd hc hlc, Option.bind_some, h0]
    by_cases hz : noneB l.cmd = true
    · rw [if_pos hz, hz]
      simp only [List.nil_append, Bool.true_and]
      congr 2
      by_cases hl : l.nodes.length = 0
      · simp [hl]
      · rw [decide_eq_false hl, beq_eq_false_iff_ne.2 (by omega)]
    · rw [if_neg hz, Bool.eq_false_iff.2 hz]
      simp
  · rw [if_neg h0, if_neg h0]
    by_cases h1 : l.kind = 1
    · rw [if_pos h1, if_pos h1, command_f k l.cmd hlc hn, Option.bind_some, h1, if_pos (by simp only [List.length_append, zbo, List.length_nil, List.length_cons]; omega)]
      simp only [List.nil_append]
      congr 2
      by_cases hl : l.nodes.length = 0
      · simp [hl]
      · rw [decide_eq_false hl, beq_eq_false_iff_ne.2 (by omega)]
    · rw [if_neg h1, if_neg h1]
      by_cases h2 : l.kind = 2
      · rw [if_pos h2, if_pos h2, show k + 10 = (k + 1) + 9 by omega, zew _ _ _ (by simp [zbo]), Option.bind_some, h2]
        have h := log_go (k - l.nodes.length) l.cmd hc hlc l.nodes l.term l.kind l.nodes hk l.nodes.length 0
        rw [Int.natCast_zero, h2] at h
        rw [show k + 1 + 9 = (k - l.nodes.length) + 10 + l.nodes.length by omega, h _ (by omega) (by simp only [List.drop_zero, zdc, List.length_append, zbo, List.length_nil, List.length_cons]; omega)]
        simp
      · rw [if_neg h2, if_neg h2]
theorem zdj (k : Nat) (l : List Int) (n : Int) (j : Nat) (hj : j < 8) (hl : l.length < 140737488355328) :
    zal.l0 (k + 1) l n ((7 - j : Nat) : Int) = zal.l0 k (l ++ [byteAt n j]) n ((7 - j : Nat) - 1 : Int) := by
  have hb := zfs n j hj
  have e1 : wrap64 (8 * ((7 - j : Nat) : Int)) = ((56 - 8 * j : Nat) : Int) := by unfold wrap64; omega
  have e2 : IntKind.u64.wrap (((56 - 8 * j : Nat) : Int)) = ((56 - 8 * j : Nat) : Int) := by
    obtain h | h | h | h | h | h | h | h : j = 0 ∨ j = 1 ∨ j = 2 ∨ j = 3 ∨ j = 4 ∨ j = 5 ∨ j = 6 ∨ j = 7 := by omega
    all_goals (subst h; rfl)
  have e3 : wrap64 (((7 - j : Nat) : Int) - 1) = ((7 - j : Nat) : Int) - 1 := by unfold wrap64; omega
  rw [zal.l0, if_pos (by omega), e1, e2, if_pos (by omega), if_pos hl, e3]
  have e4 : shr .u64 (IntKind.u64.wrap n) ((56 - 8 * j : Nat) : Int) % 256 = byteAt n j := by
    rw [← hb]
    unfold shr
    rw [Int.toNat_natCast, Nat.min_eq_left (by show 56 - 8 * j ≤ 64; omega)]
  rw [e4]
theorem number22_go (k : Nat) (l : List Int) (n : Int) (hl : l.length + 8 < 140737488355328) : zal.l0 (k + 9) l n 7 = some (l ++ be8 n) := by
  have h0 := zdj (k + 8) l n 0 (by omega) (by omega)
  have h1 := zdj (k + 7) (l ++ [byteAt n 0]) n 1 (by omega) (by simp; omega)
  have h2 := zdj (k + 6) (l ++ [byteAt n 0] ++ [byteAt n 1]) n 2 (by omega) (by simp; omega)
  have h3 := zdj (k + 5) (l ++ [byteAt n 0] ++ [byteAt n 1] ++ [byteAt n 2]) n 3 (by omega) (by simp; omega)
  have h4 := zdj (k + 4) (l ++ [byteAt n 0] ++ [byteAt n 1] ++ [byteAt n 2] ++ [byteAt n 3]) n 4 (by omega) (by simp; omega)
  have h5 := zdj (k + 3) (l ++ [byteAt n 0] ++ [byteAt n 1] ++ [byteAt n 2] ++ [byteAt n 3] ++ [byteAt n 4]) n 5 (by omega) (by simp; omega)
  have h6 := zdj (k + 2) (l ++ [byteAt n 0] ++ [byteAt n 1] ++ [byteAt n 2] ++ [byteAt n 3] ++ [byteAt n 4] ++ [byteAt n 5]) n 6 (by omega) (by simp; omega)
  have h7 := zdj (k + 1) (l ++ [byteAt n 0] ++ [byteAt n 1] ++ [byteAt n 2] ++ [byteAt n 3] ++ [byteAt n 4] ++ [byteAt n 5] ++ [byteAt n 6]) n 7 (by omega) (by simp; omega)
  refine h0.trans (h1.trans (h2.trans (h3.trans (h4.trans (h5.trans (h6.trans (h7.trans ?_)))))))
  rw [zal.l0, if_neg (by omega)]
  simp [be8, List.range, List.range.loop]
theorem zcz (k : Nat) (l : List Int) (n : Int) (hl : l.length + 8 < 140737488355328) : zal.f (k + 9) l n = some (l ++ be8 n) := number22_go k l n hl
def refItem (x : S38) : List Int := be8 ((refLog (logOf x)).1.length : Int) ++ (refLog (logOf x)).1
def refOk (x : S38) : Bool := (refLog (logOf x)).2
/-- The document's bytes of a message. -/
def refRpc (m : Rpc) : List Int := [m.kind % 256] ++ nums8 [m.src, m.dst, m.term, m.at_, m.logTerm] ++ [okByte m.ok] ++ nums8 [m.commit, m.read, (m.logs.length : Int)] ++ m.logs.flatMap refItem ++ nums8 [m.snapAt, m.snapTerm, (m.nodes.length : Int)] ++ nums8 m.nodes ++ txt m.data
theorem l1_go (k : Nat) (g : Bool) (nodes : List Int) (hn : nodes.length < 1099511627776) (c0 c1 c2 c3 c4 c5 : Int) (c6 : Bool) (c7 c8 : Int) (c9 : List S38) (c10 c11 : Int) (c12 : List Int) (data : ByteArray) : ∀ (q j : Nat) (x : List Int), q + j = nodes.length → x.length + (nums8 (nodes.drop j)).length + 8 + data.size < 140737488355328 →
    zam.l1 (k + 10 + q) g x nodes (nodes.length : Int) (j : Int) c0 c1 c2 c3 c4 c5 c6 c7 c8 c9 c10 c11 c12 data = some (x ++ nums8 (nodes.drop j) ++ txt data, g) := by
  intro q
  induction q with
  | zero =>
    intro j x hm hl
    have e : nodes.drop j = [] := List.drop_eq_nil_of_le (by omega)
    rw [e] at hl ⊢
    simp only [nums8, List.flatMap_nil, List.length_nil, List.append_nil] at hl ⊢
    rw [show k + 10 + 0 = (k + 9) + 1 by omega, zam.l1, if_neg (by omega), zcz k x _ (by omega), Option.bind_some, if_pos (by rw [List.length_append, zbo]; omega), txt, List.append_assoc]
  | succ q ih =>
    intro j x hm hl
    have hj : j < nodes.length := by omega
    have e := zhv 0 nodes j hj
    rw [e, zeg, List.length_append, zbo] at hl
    have ew : wrap64 ((j : Int) + 1) = ((j + 1 : Nat) : Int) := by unfold wrap64; omega
    have er : rd nodes (j : Int) = nodes.getD j 0 := by unfold rd; rw [Int.toNat_natCast]
    rw [show k + 10 + (q + 1) = (k + 10 + q) + 1 by omega, zam.l1, if_pos (by omega), if_pos (by omega), if_pos (by omega), er, show k + 10 + q = (k + 1 + q) + 9 by omega, zcz (k + 1 + q) x _ (by omega), Option.bind_some, ew, show k + 1 + q + 9 = k + 10 + q by omega, ih (j + 1) _ (by omega) (by rw [List.length_append, zbo]; omega), e, zeg]
    simp only [List.append_assoc]
theorem items_cons (a : S38) (l : List S38) : (a :: l).flatMap refItem = refItem a ++ l.flatMap refItem := by simp
theorem l0_go (k : Nat) (logs : List S38) (hn : logs.length < 1099511627776) (hx : ∀ x ∈ logs, XOk x ∧ x.f2.f7.length ≤ k ∧ x.f3.length ≤ k) (c0 c1 c2 c3 c4 c5 : Int) (c6 : Bool) (c7 c8 : Int) (c9 : List S38) (c10 c11 : Int) (nodes : List Int) (hnn : nodes.length < 1099511627776) (data : ByteArray) : ∀ (q j : Nat) (x : List Int) (g : Bool), q + j = logs.length → x.length + ((logs.drop j).flatMap refItem).length + 24 + 8 * nodes.length + 8 + data.size < 140737488355328 →
    zam.l0 (k + 30 + nodes.length + q) g x logs (logs.length : Int) (j : Int) c0 c1 c2 c3 c4 c5 c6 c7 c8 c9 c10 c11 nodes data = some (x ++ (logs.drop j).flatMap refItem ++ nums8 [c10, c11, (nodes.length : Int)] ++ nums8 nodes ++ txt data, g && (logs.drop j).all refOk) := by
  intro q
  induction q with
  | zero =>
    intro j x g hm hl
    have e : logs.drop j = [] := List.drop_eq_nil_of_le (by omega)
    rw [e] at hl ⊢
    simp only [List.flatMap_nil, List.length_nil, List.append_nil, List.all_nil, Bool.and_true] at hl ⊢
    have h1 := l1_go (k + 19) g nodes hnn c0 c1 c2 c3 c4 c5 c6 c7 c8 c9 c10 c11 nodes data nodes.length 0 (x ++ be8 c10 ++ be8 c11 ++ be8 (nodes.length : Int)) (by omega) (by simp only [List.length_append, zbo, List.drop_zero, zdc]; omega)
    rw [Int.natCast_zero, List.drop_zero] at h1
    rw [show k + 30 + nodes.length + 0 = (k + 20 + nodes.length + 9) + 1 by omega, zam.l0, if_neg (by omega), zcz _ x _ (by omega), Option.bind_some, zcz _ _ _ (by rw [List.length_append, zbo]; omega), Option.bind_some, zcz _ _ _ (by simp only [List.length_append, zbo]; omega), Option.bind_some, show k + 20 + nodes.length + 9 = k + 19 + 10 + nodes.length by omega, h1]
    simp [nums8]
  | succ q ih =>
    intro j x g hm hl
    have hj : j < logs.length := by omega
    have q1 : ((j : Int)) < (logs.length : Int) := by omega
    have q2 : (0 : Int) ≤ (j : Int) := by omega
    have e := zhv z38 logs j hj
    obtain ⟨a, ha⟩ : ∃ a, logs.getD j z38 = a := ⟨_, rfl⟩
    rw [ha] at e
    have hmem : a ∈ logs := by rw [← ha, List.getD_eq_getElem?_getD, List.getElem?_eq_getElem hj]; exact List.getElem_mem hj
    obtain ⟨hax, han, ham⟩ := hx a hmem
    rw [e, items_cons, List.length_append] at hl
    have hri : (refItem a).length = 8 + (refLog (logOf a)).1.length := by simp [refItem, zbo]
    have er : zak logs (j : Int) = a := by unfold zak; rw [Int.toNat_natCast, ha]
    have hlog := log_f (k + 20 + nodes.length + q) (logOf a) hax.ok.cmd hax.len (by show a.f2.f7.length ≤ _; omega) (by show a.f3.length ≤ _; omega) hax.nodes
    rw [show k + 20 + nodes.length + q + 10 = k + 30 + nodes.length + q by omega] at hlog
    have hlog2 : zaq.f (k + 30 + nodes.length + q) a.f0 a.f1 a.f2.f0 a.f2.f1 a.f2.f2 a.f2.f3 a.f2.f4 a.f2.f5 a.f2.f6 a.f2.f7 a.f2.f8 a.f2.f9 a.f2.f10 a.f3 = some (refLog (logOf a)) := hlog
    rw [show k + 30 + nodes.length + (q + 1) = (k + 30 + nodes.length + q) + 1 by omega, zam.l0, if_pos q1, if_pos q2, if_pos q1, er, hlog2, Option.bind_some]
    have hnum : zal.f (k + 30 + nodes.length + q) x ((refLog (logOf a)).1.length : Int) = some (x ++ be8 ((refLog (logOf a)).1.length : Int)) := by
      rw [show k + 30 + nodes.length + q = (k + 21 + nodes.length + q) + 9 by omega]
      exact zcz _ _ _ (by omega)
    have ew : wrap64 ((j : Int) + 1) = ((j + 1 : Nat) : Int) := by unfold wrap64; omega
    have hb1 : (x ++ be8 ((refLog (logOf a)).1.length : Int)).length + (refLog (logOf a)).1.length < 140737488355328 := by rw [List.length_append, zbo]; omega
    have h2 := fun g' => ih (j + 1) (x ++ be8 ((refLog (logOf a)).1.length : Int) ++ (refLog (logOf a)).1) g' (by omega) (by simp only [List.length_append, zbo]; omega)
    cases g
    · rw [if_neg (by decide), hnum, Option.bind_some, if_pos hb1, ew, h2, e]
      simp [refItem, List.append_assoc]
    · rw [if_pos rfl, hnum, Option.bind_some, if_pos hb1, ew, h2, e]
      simp [refItem, refOk, List.append_assoc]
theorem zix (m : Rpc) : (refRpc m).length = 98 + (m.logs.flatMap refItem).length + 8 * m.nodes.length + m.data.size := by
  simp only [refRpc, List.length_append, List.length_singleton, zdh, zdc, List.length_cons, List.length_nil]
  omega
theorem bytes_f (k : Nat) (m : Rpc) (hx : ∀ x ∈ m.logs, XOk x ∧ x.f2.f7.length ≤ k ∧ x.f3.length ≤ k) (hl : (refRpc m).length < 1099511627776) (hn : m.logs.length < 1099511627776) :
    zam.f (k + 32 + m.nodes.length + m.logs.length) m.kind m.src m.dst m.term m.at_ m.logTerm m.ok m.commit m.read m.logs m.snapAt m.snapTerm m.nodes m.data = some (refRpc m, decide (1 ≤ m.kind ∧ m.kind ≤ 6) && m.logs.all refOk) := by
  rw [zix] at hl
  have h0 := fun x g => l0_go k m.logs hn hx m.kind m.src m.dst m.term m.at_ m.logTerm m.ok m.commit m.read m.logs m.snapAt m.snapTerm m.nodes (by omega) m.data m.logs.length 0 x g (by omega)
  simp only [Int.natCast_zero, List.drop_zero] at h0
  have hj : ∀ g, zam.j0 (k + 32 + m.nodes.length + m.logs.length) g m.kind m.src m.dst m.term m.at_ m.logTerm m.ok m.commit m.read m.logs m.snapAt m.snapTerm m.nodes m.data = some (refRpc m, g && m.logs.all refOk) := by
    intro g
    have j1 : ∀ x : List Int, x.length ≤ 100 → zam.j1 (k + 31 + m.nodes.length + m.logs.length) g x m.kind m.src m.dst m.term m.at_ m.logTerm m.ok m.commit m.read m.logs m.snapAt m.snapTerm m.nodes m.data = some (x ++ nums8 [m.commit, m.read, (m.logs.length : Int)] ++ m.logs.flatMap refItem ++ nums8 [m.snapAt, m.snapTerm, (m.nodes.length : Int)] ++ nums8 m.nodes ++ txt m.data, g && m.logs.all refOk) := by
      intro x hxl
      rw [show k + 31 + m.nodes.length + m.logs.length = (k + 21 + m.nodes.length + m.logs.length + 9) + 1 by omega, zam.j1, zcz _ x _ (by omega), Option.bind_some, zcz _ _ _ (by rw [List.length_append, zbo]; omega), Option.bind_some, zcz _ _ _ (by simp only [List.length_append, zbo]; omega), Option.bind_some, show k + 21 + m.nodes.length + m.logs.length + 9 = k + 30 + m.nodes.length + m.logs.length by omega, h0 _ g (by simp only [List.length_append, zbo]; omega)]
      simp [nums8]
    rw [show k + 32 + m.nodes.length + m.logs.length = (k + 22 + m.nodes.length + m.logs.length + 9) + 1 by omega, zam.j0, zcz _ _ _ (by simp), Option.bind_some, zcz _ _ _ (by simp [zbo]), Option.bind_some, zcz _ _ _ (by simp [zbo]), Option.bind_some, zcz _ _ _ (by simp [zbo]), Option.bind_some, zcz _ _ _ (by simp [zbo]), Option.bind_some, show k + 22 + m.nodes.length + m.logs.length + 9 = k + 31 + m.nodes.length + m.logs.length by omega]
    cases hok : m.ok
    · rw [hok] at j1
      simp only [Bool.false_eq_true, if_false]
      rw [if_pos (by simp [zbo]), j1 _ (by simp [zbo])]
      simp [refRpc, nums8, okByte, hok]
    · rw [hok] at j1
      simp only [if_true]
      rw [if_pos (by simp [zbo]), j1 _ (by simp [zbo])]
      simp [refRpc, nums8, okByte, hok]
  unfold zam.f
  rw [hj, hj]
  by_cases c : m.kind ≥ 1
  · rw [if_pos c]
    simp [show 1 ≤ m.kind from c]
  · rw [if_neg c]
    simp [show ¬ 1 ≤ m.kind from c]
end Go.Proofs.Ytjhcbggpbfejgaa.XMsgPuts
