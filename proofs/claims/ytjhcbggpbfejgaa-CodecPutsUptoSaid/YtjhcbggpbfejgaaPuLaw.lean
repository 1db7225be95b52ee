import Derived.Test.YtjhcbggpbfejgaaPuLog
import Derived.Test.YtjhcbggpbfejgaaXCodecPutsx5
/- What CodecPuts computes is true. -/
namespace Go.Proofs.Ytjhcbggpbfejgaa.XCodecPuts
open Go.RowKit Go.Proofs.YtjhcbggpbfejgaaW.PrintWords Go.Proofs.YtjhcbggpbfejgaaW.PrintLast Go.Proofs.YtjhcbggpbfejgaaW.PrintMore
open Go.Proofs.Ytjhcbggpbfejgaa.Cp
set_option linter.unusedVariables false

/-- The document's bytes of an entry, and whether it can be. -/
def refLog (l : Log) : List Int × Bool :=
  if l.kind = 0 then (be8 l.term ++ [0], noneB l.cmd && decide (l.nodes.length = 0))
  else if l.kind = 1 then (be8 l.term ++ [1] ++ enc l.cmd, decide (l.nodes.length = 0))
  else if l.kind = 2 then (be8 l.term ++ [2] ++ be8 (l.nodes.length : Int) ++ nums8 l.nodes, noneB l.cmd)
  else ([], false)
theorem nums8_cons (a : Int) (l : List Int) : nums8 (a :: l) = be8 a ++ nums8 l := by simp [nums8]
theorem nums8_len (l : List Int) : (nums8 l).length = 8 * l.length := by
  induction l with
  | nil => rfl
  | cons a l ih => rw [nums8_cons, List.length_append, be8_len, ih, List.length_cons]; omega
theorem log_go (k : Nat) (c : Cmd) (hc : c.Ok) (hlc : (enc c).length < 1099511627776) (nodes : List Int) (b0 b1 : Int) (b13 : List Int) (hn : nodes.length < 1099511627776) : ∀ (m j : Nat) (x : List Int), m + j = nodes.length → x.length + (nums8 (nodes.drop j)).length < 140737488355328 →
    calepinref15_Log.l0 (k + 10 + m) x nodes (nodes.length : Int) (j : Int) b0 b1 c.op c.book c.name c.data c.mat c.non c.token c.names c.at_ c.session c.seq b13 = some (x ++ nums8 (nodes.drop j), noneB c) := by
  intro m
  induction m with
  | zero =>
    intro j x hm hl
    have e : nodes.drop j = [] := List.drop_eq_nil_of_le (by omega)
    rw [e, show k + 10 + 0 = (k + 9) + 1 by omega, calepinref15_Log.l0, if_neg (by omega), zero_f c hc hlc, Option.bind_some]
    simp [nums8]
  | succ m ih =>
    intro j x hm hl
    have hj : j < nodes.length := by omega
    have e := drop_get (0 : Int) nodes j hj
    rw [e, nums8_cons, List.length_append, be8_len] at hl
    have ew : wrap64 ((j : Int) + 1) = ((j + 1 : Nat) : Int) := by unfold wrap64; omega
    have er : rd nodes (j : Int) = nodes.getD j 0 := by unfold rd; rw [Int.toNat_natCast]
    rw [show k + 10 + (m + 1) = (k + 10 + m) + 1 by omega, calepinref15_Log.l0, if_pos (by omega), if_pos (by omega), if_pos (by omega), er, show k + 10 + m = (k + 1 + m) + 9 by omega, number_f (k + 1 + m) x _ (by omega), Option.bind_some, ew, show k + 1 + m + 9 = k + 10 + m by omega, ih (j + 1) _ (by omega) (by rw [List.length_append, be8_len]; omega), e, nums8_cons]
    simp only [List.append_assoc]
theorem log_f (k : Nat) (l : Log) (hc : l.cmd.Ok) (hlc : (enc l.cmd).length < 1099511627776) (hn : l.cmd.names.length ≤ k) (hm : l.nodes.length ≤ k) (hk : l.nodes.length < 1099511627776) :
    calepinref15_Log.f (k + 10) l.term l.kind l.cmd.op l.cmd.book l.cmd.name l.cmd.data l.cmd.mat l.cmd.non l.cmd.token l.cmd.names l.cmd.at_ l.cmd.session l.cmd.seq l.nodes = some (refLog l) := by
  unfold calepinref15_Log.f refLog
  rw [show k + 10 = (k + 1) + 9 by omega, number_f _ _ _ (by simp), show k + 1 + 9 = k + 10 by omega, Option.bind_some]
  rw [Option.bind_some, if_pos (by simp [be8_len]), Option.bind_some]
  by_cases h0 : l.kind = 0
  · rw [if_pos h0, if_pos h0, zero_f l.cmd hc hlc, Option.bind_some, h0]
    by_cases hz : noneB l.cmd = true
    · rw [if_pos hz, hz]
      simp only [List.nil_append, Bool.true_and]
      congr 2
      by_cases hl : l.nodes.length = 0
      · simp [hl]
      · rw [decide_eq_false hl, beq_eq_false_iff_ne.2 (by omega)]
    · rw [if_neg hz, Bool.eq_false_iff.2 hz]
      simp
  · rw [if_neg h0, if_neg h0]
    by_cases h1 : l.kind = 1
    · rw [if_pos h1, if_pos h1, command_f k l.cmd hlc hn, Option.bind_some, h1, if_pos (by simp only [List.length_append, be8_len, List.length_nil, List.length_cons]; omega)]
      simp only [List.nil_append]
      congr 2
      by_cases hl : l.nodes.length = 0
      · simp [hl]
      · rw [decide_eq_false hl, beq_eq_false_iff_ne.2 (by omega)]
    · rw [if_neg h1, if_neg h1]
      by_cases h2 : l.kind = 2
      · rw [if_pos h2, if_pos h2, show k + 10 = (k + 1) + 9 by omega, number_f _ _ _ (by simp [be8_len]), Option.bind_some, h2]
        have h := log_go (k - l.nodes.length) l.cmd hc hlc l.nodes l.term l.kind l.nodes hk l.nodes.length 0
        rw [Int.natCast_zero, h2] at h
        rw [show k + 1 + 9 = (k - l.nodes.length) + 10 + l.nodes.length by omega, h _ (by omega) (by simp only [List.drop_zero, nums8_len, List.length_append, be8_len, List.length_nil, List.length_cons]; omega)]
        simp
      · rw [if_neg h2, if_neg h2]
theorem putLog_ref (l : Log) : putLog l = if (refLog l).2 = true then some (refLog l).1 else none := by
  unfold putLog refLog
  by_cases h0 : l.kind = 0
  · simp only [h0, if_true, Bool.and_eq_true, decide_eq_true_eq]
  · simp only [h0, if_false]
    by_cases h1 : l.kind = 1
    · simp only [h1, if_true, decide_eq_true_eq]
    · simp only [h1, if_false]
      by_cases h2 : l.kind = 2
      · simp only [h2, if_true, List.append_assoc]
      · simp [h2]
theorem refLog_len (l : Log) : (refLog l).1.length ≤ 17 + (enc l.cmd).length + 8 * l.nodes.length := by
  unfold refLog
  split
  · simp [be8_len]; omega
  · split
    · simp only [List.length_append, be8_len, List.length_cons, List.length_nil]; omega
    · split
      · simp only [List.length_append, be8_len, List.length_cons, List.length_nil, nums8_len]; omega
      · simp
theorem refLog_bs (l : Log) : Bs (refLog l).1 := by
  have h : ∀ n : Int, 0 ≤ n → n < 256 → Bs [n] := fun n h0 h1 x hx => by rw [List.mem_singleton.1 hx]; exact ⟨h0, h1⟩
  unfold refLog
  split
  · exact (Bs.be8 _).append (h 0 (by decide) (by decide))
  · split
    · exact ((Bs.be8 _).append (h 1 (by decide) (by decide))).append (Bs.enc _)
    · split
      · exact (((Bs.be8 _).append (h 2 (by decide) (by decide))).append (Bs.be8 _)).append (Bs.nums8 _)
      · intro x hx; simp at hx
theorem byteR_cons (m x : Int) (t : List Int) (h : x < m) : byteR m (x :: t, 0) = (x, (t, 0)) := by
  have e := take_app [x] t 1 rfl
  rw [List.singleton_append] at e
  rw [byteR, e]
  simp [rd]
  omega
structure LogOk (l : Log) : Prop where
  term : I64 l.term
  cmd : l.cmd.Ok
  nodes : ∀ n ∈ l.nodes, I64 n
/-- What is written of an entry is read. -/
theorem getLog_ref (l : Log) (h : LogOk l) (hl : (enc l.cmd).length < 1099511627776) (hn : l.nodes.length < 1099511627776) (hr : (refLog l).2 = true) : getLog (refLog l).1 = (l, 0) := by
  have key : logR ((refLog l).1, 0) = (l, ([], 0)) := by
    unfold refLog at hr ⊢
    by_cases h0 : l.kind = 0
    · rw [if_pos h0] at hr ⊢
      simp only [Bool.and_eq_true, decide_eq_true_eq] at hr
      obtain ⟨hz, hk⟩ := hr
      have hcz := (none_iff l.cmd h.cmd hl).1 hz
      have hnz := List.eq_nil_of_length_eq_zero hk
      unfold logR
      simp only [numR_be8 _ h.term, byteR_cons 3 0 [] (by decide)]
      cases l
      simp_all
    · rw [if_neg h0] at hr ⊢
      by_cases h1 : l.kind = 1
      · rw [if_pos h1] at hr ⊢
        simp only [decide_eq_true_eq] at hr
        have hnz := List.eq_nil_of_length_eq_zero hr
        have hd := logR_enc l.term h.term l.cmd h.cmd (by omega) []
        rw [List.append_nil] at hd
        dsimp only
        rw [hd]
        cases l
        simp_all
      · rw [if_neg h1] at hr ⊢
        by_cases h2 : l.kind = 2
        · rw [if_pos h2] at hr ⊢
          have hcz := (none_iff l.cmd h.cmd hl).1 hr
          have hm := many_enc numR be8 I64 (fun a ha t => numR_be8 a ha t) (fun a => by rw [be8_len]; omega) l.nodes h.nodes (by omega) []
          rw [List.append_nil] at hm
          have e : be8 l.term ++ [2] ++ be8 (l.nodes.length : Int) ++ nums8 l.nodes = be8 l.term ++ (2 :: (be8 (l.nodes.length : Int) ++ l.nodes.flatMap be8)) := by simp [nums8]
          dsimp only
          rw [e]
          unfold logR
          simp only [numR_be8 _ h.term, byteR_cons 3 2 _ (by decide), hm]
          cases l
          simp_all
        · rw [if_neg h2] at hr
          simp at hr
  rw [getLog, key]
  rfl

theorem entR_enc (e : Cw.Ent) (h1 : e.1.size < 140737488355328) (h2 : I64 e.2.1) (h3 : e.2.2.1.size < 140737488355328) (t : List Int) : Cr.entR (Cw.entB e ++ t, 0) = (e, (t, 0)) := by
  obtain ⟨a, b, c, d⟩ := e
  have e1 : Cw.entB (a, b, c, d) ++ t = txt a ++ (be8 b ++ (txt c ++ (Cw.bit d :: t))) := by simp [Cw.entB, List.append_assoc]
  rw [e1]
  unfold Cr.entR
  simp only [txtR_txt a h1, numR_be8 b h2, txtR_txt c h3, byteR_cons 2 (Cw.bit d) t (by unfold Cw.bit; split <;> decide)]
  cases d <;> rfl
/-- What every reply of a machine meets. -/
structure RepOk (st tag : Int) (l : List S93) : Prop where
  st : I64 st
  tag : I64 tag
  ents : ∀ e ∈ l, I64 e.f1
theorem ebs_mem (l : List S93) (e : S93) (h : e ∈ l) : e.f0.size + e.f2.size ≤ (Cw.ebs q93 l).length := by
  induction l with
  | nil => simp at h
  | cons x l ih =>
    rw [ebs_cons, List.length_append, Cw.entB_len]
    rcases List.mem_cons.1 h with rfl | h
    · dsimp only; omega
    · have := ih h; omega
theorem getReply_enc (st tag : Int) (data : ByteArray) (l : List S93) (token : ByteArray) (h : RepOk st tag l) (hl : (Cw.encQ q93 st tag data l token).length < 1099511627776) : Cr.getReply mk93 (Cw.encQ q93 st tag data l token) = (⟨st, tag, data, l, token⟩, 0) := by
  simp only [Cw.encQ, List.length_append, be8_len, txt_len] at hl
  have hge := ebs_ge l
  have hm := fun t => many_enc (Cr.entM mk93) (fun x : S93 => Cw.entB (q93 x)) (fun x : S93 => x.f0.size < 140737488355328 ∧ I64 x.f1 ∧ x.f2.size < 140737488355328) (fun a ha t => by
    unfold Cr.entM
    rw [entR_enc (q93 a) ha.1 ha.2.1 ha.2.2 t]
    rfl) (fun a => by rw [Cw.entB_len]; omega) l (fun a ha => by have := ebs_mem l a ha; exact ⟨by omega, h.ents a ha, by omega⟩) (by omega) t
  have e : Cw.encQ q93 st tag data l token = be8 st ++ (be8 tag ++ (txt data ++ (be8 (l.length : Int) ++ (l.flatMap (fun x : S93 => Cw.entB (q93 x)) ++ (txt token ++ []))))) := by simp [Cw.encQ, Cw.ebs, List.append_assoc]
  have key : Cr.repR mk93 (Cw.encQ q93 st tag data l token, 0) = (⟨st, tag, data, l, token⟩, ([], 0)) := by
    rw [e]
    unfold Cr.repR
    simp only [numR_be8 st h.st, numR_be8 tag h.tag, txtR_txt data (by omega), hm, txtR_txt token (by omega)]
  rw [Cr.getReply, key]
  rfl
theorem bs_encQ (st tag : Int) (data : ByteArray) (l : List S93) (token : ByteArray) : Bs (Cw.encQ q93 st tag data l token) := by
  have hb : ∀ b : Bool, Bs [Cw.bit b] := fun b x hx => by rw [List.mem_singleton.1 hx]; cases b <;> decide
  exact (((((Bs.be8 _).append (Bs.be8 _)).append (Bs.txt _)).append ((Bs.be8 _).append (Bs.flat _ (fun x => (((Bs.txt _).append (Bs.be8 _)).append (Bs.txt _)).append (hb _)) l)))).append (Bs.txt _)

theorem put_f (c : Cmd) (hl : (enc c).length < 1099511627776) : codec_PutCommand.f c.op c.book c.name c.data c.mat c.non c.token c.names c.at_ c.session c.seq = some (enc c) := by
  unfold codec_PutCommand.f
  exact if_pos hl
theorem get_f (c : Cmd) (hc : c.Ok) (hl : (enc c).length < 1099511627776) : codec_GetCommand.f (enc c) = some (c.op, c.book, c.name, c.data, c.mat, c.non, c.token, c.names, c.at_, c.session, c.seq, 0) := by
  unfold codec_GetCommand.f
  rw [if_pos ⟨List.all_eq_true.2 (fun x hx => by simpa using Bs.enc c x hx), by omega⟩, getCommand_enc c hc (by omega)]
theorem j1_true (k : Nat) (l : Log) (h : LogOk l) (hlc : (enc l.cmd).length < 1000000000) (hn : l.cmd.names.length ≤ k) (hm : l.nodes.length ≤ k) (hk : l.nodes.length < 1000000000) :
    calepinlaw15_CodecPuts.j1 (k + 11) false l.term l.kind l.cmd.op l.cmd.book l.cmd.name l.cmd.data l.cmd.mat l.cmd.non l.cmd.token l.cmd.names l.cmd.at_ l.cmd.session l.cmd.seq l.nodes = some true := by
  have hp : codec_PutLog.f l.term l.kind l.cmd.op l.cmd.book l.cmd.name l.cmd.data l.cmd.mat l.cmd.non l.cmd.token l.cmd.names l.cmd.at_ l.cmd.session l.cmd.seq l.nodes = some ((putLog l).getD [], if (putLog l).isSome then 0 else 31) := by
    unfold codec_PutLog.f
    exact if_pos (by rw [nums8_len]; show (enc l.cmd).length + _ < _; omega)
  have hr := log_f k l h.cmd (by omega) hn hm (by omega)
  rw [show k + 11 = (k + 10) + 1 by omega, calepinlaw15_CodecPuts.j1, if_neg (by simp), hp, Option.bind_some, hr, Option.bind_some, putLog_ref]
  by_cases c : (refLog l).2 = true
  · have hg : codec_GetLog.f (refLog l).1 = some (l.term, l.kind, l.cmd.op, l.cmd.book, l.cmd.name, l.cmd.data, l.cmd.mat, l.cmd.non, l.cmd.token, l.cmd.names, l.cmd.at_, l.cmd.session, l.cmd.seq, l.nodes, 0) := by
      have hlen := refLog_len l
      unfold codec_GetLog.f
      rw [if_pos ⟨List.all_eq_true.2 (fun x hx => by simpa using refLog_bs l x hx), by omega⟩, getLog_ref l h (by omega) (by omega) c]
    rw [if_pos c, if_pos c]
    simp only [Option.getD_some, Option.isSome_some, if_true]
    rw [hg, Option.bind_some, hr, Option.bind_some]
    simp [c]
  · rw [if_neg c, if_neg c]
    simp
theorem j0_true (k : Nat) (l : Log) (h : LogOk l) (hlc : (enc l.cmd).length < 1000000000) (hn : l.cmd.names.length ≤ k) (hm : l.nodes.length ≤ k) (hk : l.nodes.length < 1000000000)
    (st tag : Int) (data : ByteArray) (es : List S93) (token : ByteArray) (hq : RepOk st tag es) (hlq : (Cw.encQ q93 st tag data es token).length < 1000000000) (hne : es.length ≤ k) :
    calepinlaw15_CodecPuts.j0 (k + 12) false l.term l.kind l.cmd.op l.cmd.book l.cmd.name l.cmd.data l.cmd.mat l.cmd.non l.cmd.token l.cmd.names l.cmd.at_ l.cmd.session l.cmd.seq l.nodes st tag data es token = some true := by
  have hp : codec_PutReply.f st tag data es token = some (Cw.encQ q93 st tag data es token) := by
    unfold codec_PutReply.f
    exact if_pos (by show (Cw.encQ q93 st tag data es token).length < _; omega)
  have hg : codec_GetReply.f (Cw.encQ q93 st tag data es token) = some (st, tag, data, es, token, 0) := by
    unfold codec_GetReply.f
    rw [if_pos ⟨List.all_eq_true.2 (fun x hx => by simpa using bs_encQ st tag data es token x hx), by omega⟩, getReply_enc st tag data es token hq (by omega)]
  have hr := reply_f (k + 1) st tag data es token (by omega) (by omega)
  rw [show k + 1 + 10 = k + 11 by omega] at hr
  rw [show k + 12 = (k + 11) + 1 by omega, calepinlaw15_CodecPuts.j0, if_neg (by simp), hp, Option.bind_some, hg, Option.bind_some, hr, Option.bind_some, if_pos rfl]
  dsimp only
  rw [if_pos rfl, Option.bind_some]
  have e : ∀ x : List UInt8, (x != x) = false := fun x => by simp
  rw [e]
  exact j1_true k l h hlc hn hm hk
theorem f_true (l : Log) (h : LogOk l) (hlc : (enc l.cmd).length < 1000000000) (hk : l.nodes.length < 1000000000)
    (st tag : Int) (data : ByteArray) (es : List S93) (token : ByteArray) (hq : RepOk st tag es) (hlq : (Cw.encQ q93 st tag data es token).length < 1000000000) :
    calepinlaw15_CodecPuts.f 400 l.term l.kind l.cmd.op l.cmd.book l.cmd.name l.cmd.data l.cmd.mat l.cmd.non l.cmd.token l.cmd.names l.cmd.at_ l.cmd.session l.cmd.seq l.nodes st tag data es token = some true := by
  have hnl : 8 * l.cmd.names.length ≤ (enc l.cmd).length := by
    rw [enc_len]
    have : 8 * l.cmd.names.length ≤ (txts l.cmd.names).length := by
      unfold txts
      induction l.cmd.names with
      | nil => simp
      | cons a l ih => simp only [List.flatMap_cons, List.length_append, List.length_cons, txt_len]; omega
    omega
  have hel : 25 * es.length ≤ (Cw.encQ q93 st tag data es token).length := by
    have := ebs_ge es
    simp only [Cw.encQ, List.length_append, be8_len, txt_len]
    omega
  unfold calepinlaw15_CodecPuts.f
  rw [show calepinlaw15_first.f = some true from rfl, Option.bind_some, if_pos rfl]
  have ew : wrap64 ((wrap64 ((l.cmd.names.length : Int) + (l.nodes.length : Int))) + (es.length : Int)) = ((l.cmd.names.length + l.nodes.length + es.length : Nat) : Int) := by unfold wrap64; omega
  rw [ew]
  by_cases c : ((l.cmd.names.length + l.nodes.length + es.length : Nat) : Int) > 300
  · rw [if_pos c]
  · rw [if_neg c, put_f l.cmd (by omega), Option.bind_some, get_f l.cmd h.cmd (by omega), Option.bind_some]
    have hc := command_f 390 l.cmd (by omega) (by omega)
    rw [show 390 + 10 = 400 by omega] at hc
    rw [hc, Option.bind_some, if_pos rfl]
    dsimp only
    rw [if_pos rfl, Option.bind_some]
    have e : ∀ x : List UInt8, (x != x) = false := fun x => by simp
    rw [e]
    exact j0_true 388 l h hlc (by omega) (by omega) hk st tag data es token hq hlq (by omega)
end Go.Proofs.Ytjhcbggpbfejgaa.XCodecPuts
