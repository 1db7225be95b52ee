import Derived.Test.YtjhcbggpbfejgaaXCodecApartx2
import Derived.Test.YtjhcbggpbfejgaaCq
/- What CodecApart computes is true. -/
namespace Go.Proofs.Ytjhcbggpbfejgaa.XCodecApart
open Go.RowKit Go.Proofs.YtjhcbggpbfejgaaW.PrintWords Go.Proofs.YtjhcbggpbfejgaaW.PrintLast Go.Proofs.YtjhcbggpbfejgaaW.PrintMore
open Go.Proofs.Ytjhcbggpbfejgaa.Cp
set_option linter.unusedVariables false

theorem str_list {a b : ByteArray} (h : a.toList = b.toList) : a = b :=
  ByteArray.ext (Array.ext' (by rw [← Go.ByteArray.toList_eq, ← Go.ByteArray.toList_eq, h]))

theorem put_f (c : Cmd) (hl : (enc c).length < 1099511627776) : codec_PutCommand.f c.op c.book c.name c.data c.mat c.non c.token c.names c.at_ c.session c.seq = some (enc c) := by
  unfold codec_PutCommand.f
  exact if_pos hl
theorem get_f (c : Cmd) (hc : c.Ok) (hl : (enc c).length < 1099511627776) : codec_GetCommand.f (enc c) = some (c.op, c.book, c.name, c.data, c.mat, c.non, c.token, c.names, c.at_, c.session, c.seq, 0) := by
  unfold codec_GetCommand.f
  rw [if_pos ⟨List.all_eq_true.2 (fun x hx => by simpa using Bs.enc c x hx), by omega⟩, getCommand_enc c hc (by omega)]
theorem enc_inj {c d : Cmd} (hc : c.Ok) (hd : d.Ok) (lc : (enc c).length < 1099511627776) (ld : (enc d).length < 1099511627776) (h : enc c = enc d) : c = d := by
  have h1 := getCommand_enc c hc (by omega)
  rw [h, getCommand_enc d hd (by omega)] at h1
  exact (congrArg Prod.fst h1).symm

theorem j1_true (k : Nat) (c d : Cmd) (hc : c.Ok) (hd : d.Ok) (hne : d ≠ c) (lc : (enc c).length < 1099511627776) (ld : (enc d).length < 1099511627776) :
    calepinlaw15_CodecApart.j1 (k + 1) c.op c.book c.name c.data c.mat c.non c.token c.names c.at_ c.session c.seq d.op d.book d.name d.data d.mat d.non d.token d.names d.at_ d.session d.seq = some true := by
  rw [calepinlaw15_CodecApart.j1, put_f c lc, Option.bind_some, put_f d ld, Option.bind_some, get_f d hd ld, Option.bind_some]
  rw [if_neg (fun h => hne (enc_inj hc hd lc ld ((str_inj (Bs.enc c) (Bs.enc d)).1 (str_list h))).symm)]
  simp only [if_true]
  rw [put_f d ld, Option.bind_some]
  simp

theorem ite_of {α : Type} {p : Prop} [Decidable p] {a b r : α} (h1 : p → a = r) (h2 : ¬p → b = r) : (if p then a else b) = r := by
  by_cases h : p
  · rw [if_pos h]; exact h1 h
  · rw [if_neg h]; exact h2 h
theorem xor_I64 (x y : Int) : I64 (Go.bits .xor .i64 x y) := by
  have h : ∀ n : Int, I64 (IntKind.i64.wrap n) := by
    intro n
    rw [i64_w]
    unfold I64 wrap64
    omega
  exact h _
theorem size_ne {a b : ByteArray} (h : a.size ≠ b.size) : a ≠ b := fun e => h (by rw [e])
theorem f_true (c : Cmd) (x : Int) (s : ByteArray) (hc : c.Ok) (lc : (enc c).length < 1000000000) (ls : s.size < 1000000000) :
    calepinlaw15_CodecApart.f 2 c.op c.book c.name c.data c.mat c.non c.token c.names c.at_ c.session c.seq x s = some true := by
  unfold calepinlaw15_CodecApart.f
  rw [show calepinlaw15_first.f = some true from rfl, Option.bind_some, if_pos rfl]
  by_cases h3 : (c.names.length : Int) > 300
  · rw [if_pos h3, calepinlaw15_CodecApart.j0, if_pos rfl]
  rw [if_neg h3]
  by_cases h0 : s.toList = []
  · rw [h0, show (([] : List UInt8) == []) = true from rfl, calepinlaw15_CodecApart.j0, if_pos rfl]
  have hs : s.size ≠ 0 := by
    intro h
    apply h0
    rw [Go.ByteArray.toList_eq]
    exact List.length_eq_zero_iff.1 (by simpa using h)
  have h0' : (s.toList == ([] : List UInt8)) = false := beq_eq_false_iff_ne.2 h0
  rw [h0']
  have hen := enc_len c
  simp only [Cmd.six, txts, List.flatMap_cons, List.flatMap_nil, List.length_append, List.length_nil, txt_len] at hen
  have hnl : 8 * c.names.length ≤ (txts c.names).length := by
    unfold txts
    induction c.names with
    | nil => simp
    | cons a l ih => simp only [List.flatMap_cons, List.length_append, List.length_cons, txt_len]; omega
  unfold txts at hnl
  rw [calepinlaw15_CodecApart.j0]
  simp only [Bool.false_eq_true, if_false, Option.bind_some, List.nil_append, List.length_nil]
  rw [if_pos (by omega)]
  have B : ∀ d : Cmd, d.Ok → d ≠ c → (enc d).length < 1099511627776 → calepinlaw15_CodecApart.j1 1 c.op c.book c.name c.data c.mat c.non c.token c.names c.at_ c.session c.seq d.op d.book d.name d.data d.mat d.non d.token d.names d.at_ d.session d.seq = some true := fun d h1 h2 h3 => j1_true 0 c d hc h1 h2 (by omega) h3
  have E : ∀ d : Cmd, (enc d).length = 40 + (8 + d.book.size + (8 + d.name.size + (8 + d.data.size + (8 + d.mat.size + (8 + d.non.size + (8 + d.token.size + 0)))))) + (txts d.names).length := by
    intro d
    rw [enc_len]
    simp only [Cmd.six, txts, List.flatMap_cons, List.flatMap_nil, List.length_append, List.length_nil, txt_len]
  have a1 : ∀ b : ByteArray, b ++ s ≠ b := fun b => size_ne (by rw [ByteArray.size_append]; omega)
  have l300 : c.names.length ≤ 300 := by omega
  refine ite_of (fun _ => ?_) (fun nbook => ?_)
  · rw [if_pos (by have := hen; omega)]
    exact B { c with book := c.book ++ s } ⟨hc.op, hc.at_, hc.session, hc.seq⟩ (fun h => a1 _ (congrArg Cmd.book h)) (by rw [E]; simp only [ByteArray.size_append, txts]; omega)
  refine ite_of (fun _ => ?_) (fun nname => ?_)
  · rw [if_pos (by have := hen; omega)]
    exact B { c with name := c.name ++ s } ⟨hc.op, hc.at_, hc.session, hc.seq⟩ (fun h => a1 _ (congrArg Cmd.name h)) (by rw [E]; simp only [ByteArray.size_append, txts]; omega)
  refine ite_of (fun _ => ?_) (fun ndata => ?_)
  · rw [if_pos (by have := hen; omega)]
    exact B { c with data := c.data ++ s } ⟨hc.op, hc.at_, hc.session, hc.seq⟩ (fun h => a1 _ (congrArg Cmd.data h)) (by rw [E]; simp only [ByteArray.size_append, txts]; omega)
  refine ite_of (fun _ => ?_) (fun nmat => ?_)
  · rw [if_pos (by have := hen; omega)]
    exact B { c with mat := c.mat ++ s } ⟨hc.op, hc.at_, hc.session, hc.seq⟩ (fun h => a1 _ (congrArg Cmd.mat h)) (by rw [E]; simp only [ByteArray.size_append, txts]; omega)
  refine ite_of (fun _ => ?_) (fun nnon => ?_)
  · rw [if_pos (by have := hen; omega)]
    exact B { c with non := c.non ++ s } ⟨hc.op, hc.at_, hc.session, hc.seq⟩ (fun h => a1 _ (congrArg Cmd.non h)) (by rw [E]; simp only [ByteArray.size_append, txts]; omega)
  refine ite_of (fun _ => ?_) (fun ntoken => ?_)
  · rw [if_pos (by have := hen; omega)]
    exact B { c with token := c.token ++ s } ⟨hc.op, hc.at_, hc.session, hc.seq⟩ (fun h => a1 _ (congrArg Cmd.token h)) (by rw [E]; simp only [ByteArray.size_append, txts]; omega)
  refine ite_of (fun _ => ?_) (fun nn => ?_)
  · rw [if_pos (by omega)]
    refine B { c with names := c.names ++ [s] } ⟨hc.op, hc.at_, hc.session, hc.seq⟩ (fun h => ?_) (by rw [E]; simp only [txts, List.flatMap_append, List.flatMap_cons, List.flatMap_nil, List.length_append, List.length_nil, txt_len]; omega)
    have := congrArg List.length (congrArg Cmd.names h)
    simp at this
  · exact B { c with session := Go.bits .xor .i64 c.session 1 } ⟨hc.op, hc.at_, xor_I64 _ _, hc.seq⟩ (fun h => xor_ne _ 1 (by decide) (congrArg Cmd.session h)) (by rw [E]; simp only [txts]; omega)
end Go.Proofs.Ytjhcbggpbfejgaa.XCodecApart
