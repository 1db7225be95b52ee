import Derived.Test.YtjhcbggpbfejgaaPuRef
/- The document's own writer of entries, and entries got back. -/
namespace Go.Proofs.Ytjhcbggpbfejgaa.XCodecPuts
open Go.RowKit Go.Proofs.YtjhcbggpbfejgaaW.PrintWords Go.Proofs.YtjhcbggpbfejgaaW.PrintLast Go.Proofs.YtjhcbggpbfejgaaW.PrintMore
open Go.Proofs.Ytjhcbggpbfejgaa.Cp
set_option linter.unusedVariables false

theorem str_list {a b : ByteArray} (h : a.toList = b.toList) : a = b :=
  ByteArray.ext (Array.ext' (by rw [← Go.ByteArray.toList_eq, ← Go.ByteArray.toList_eq, h]))
theorem enc_inj {c d : Cmd} (hc : c.Ok) (hd : d.Ok) (lc : (enc c).length < 1099511627776) (ld : (enc d).length < 1099511627776) (h : enc c = enc d) : c = d := by
  have h1 := getCommand_enc c hc (by omega)
  rw [h, getCommand_enc d hd (by omega)] at h1
  exact (congrArg Prod.fst h1).symm
theorem zero_ok : zeroCmd.Ok := ⟨by simp [I64, zeroCmd], by simp [I64, zeroCmd], by simp [I64, zeroCmd], by simp [I64, zeroCmd]⟩
theorem zero_len : (enc zeroCmd).length = 88 := by decide +kernel
theorem none_iff (c : Cmd) (hc : c.Ok) (hl : (enc c).length < 1099511627776) : noneB c = true ↔ c = zeroCmd := by
  unfold noneB
  rw [Bool.and_eq_true, decide_eq_true_eq, decide_eq_true_eq]
  constructor
  · rintro ⟨h1, h2⟩
    have h3 : c.names = [] := List.eq_nil_of_length_eq_zero h1
    have e : ({ c with names := [] } : Cmd) = c := by cases c; simp_all
    rw [e] at h2
    exact enc_inj hc zero_ok hl (by rw [zero_len]; omega) h2
  · rintro rfl
    exact ⟨rfl, rfl⟩
theorem size_zero {s : ByteArray} (h : s.size = 0) : s = ⟨#[]⟩ := ByteArray.ext (Array.eq_empty_of_size_eq_zero h)
theorem w64 {a : Int} (h0 : 0 ≤ a) (h1 : a < 9223372036854775808) : wrap64 a = a := by unfold wrap64; omega
theorem zero_f (c : Cmd) (hc : c.Ok) (hl : (enc c).length < 1099511627776) : calepinref15_Zero.f c.op c.book c.name c.data c.mat c.non c.token c.names c.at_ c.session c.seq = some (noneB c) := by
  have hen := enc_len c
  simp only [Cmd.six, txts, List.flatMap_cons, List.flatMap_nil, List.length_append, List.length_nil, txt_len] at hen
  have hnl : 8 * c.names.length ≤ (c.names.flatMap txt).length := by
    induction c.names with
    | nil => simp
    | cons a l ih => simp only [List.flatMap_cons, List.length_append, List.length_cons, txt_len]; omega
  have hw : (wrap64 ((wrap64 ((wrap64 ((wrap64 ((wrap64 ((wrap64 ((c.book.size : Int) + (c.name.size : Int))) + (c.data.size : Int))) + (c.mat.size : Int))) + (c.non.size : Int))) + (c.token.size : Int))) + (c.names.length : Int))) = ((c.book.size + c.name.size + c.data.size + c.mat.size + c.non.size + c.token.size + c.names.length : Nat) : Int) := by
    rw [w64 (a := (c.book.size : Int) + (c.name.size : Int)) (by omega) (by omega), w64 (a := (c.book.size : Int) + (c.name.size : Int) + (c.data.size : Int)) (by omega) (by omega), w64 (a := (c.book.size : Int) + (c.name.size : Int) + (c.data.size : Int) + (c.mat.size : Int)) (by omega) (by omega),
      w64 (a := (c.book.size : Int) + (c.name.size : Int) + (c.data.size : Int) + (c.mat.size : Int) + (c.non.size : Int)) (by omega) (by omega), w64 (a := (c.book.size : Int) + (c.name.size : Int) + (c.data.size : Int) + (c.mat.size : Int) + (c.non.size : Int) + (c.token.size : Int)) (by omega) (by omega), w64 (by omega) (by omega)]
    omega
  unfold calepinref15_Zero.f
  rw [hw]
  by_cases hz : noneB c = true
  · have hcz := (none_iff c hc hl).1 hz
    subst hcz
    rw [hz]
    simp [zeroCmd, show (⟨#[]⟩ : ByteArray).size = 0 from rfl]
  · rw [Bool.eq_false_iff.2 hz]
    have hne : c ≠ zeroCmd := fun e => hz ((none_iff c hc hl).2 e)
    by_cases h0 : c.op = 0
    · rw [if_pos h0]
      by_cases h1 : ((c.book.size + c.name.size + c.data.size + c.mat.size + c.non.size + c.token.size + c.names.length : Nat) : Int) = 0
      · rw [if_pos h1]
        by_cases h2 : c.at_ = 0
        · rw [if_pos h2]
          by_cases h3 : c.session = 0
          · rw [if_pos h3]
            by_cases h4 : c.seq = 0
            · exfalso
              apply hne
              have a1 := size_zero (s := c.book) (by omega)
              have a2 := size_zero (s := c.name) (by omega)
              have a3 := size_zero (s := c.data) (by omega)
              have a4 := size_zero (s := c.mat) (by omega)
              have a5 := size_zero (s := c.non) (by omega)
              have a6 := size_zero (s := c.token) (by omega)
              have a7 : c.names = [] := List.eq_nil_of_length_eq_zero (by omega)
              cases c
              simp_all [zeroCmd]
            · rw [beq_eq_false_iff_ne.2 h4]
          · rw [if_neg h3]
        · rw [if_neg h2]
      · rw [if_neg h1]
    · rw [if_neg h0]
end Go.Proofs.Ytjhcbggpbfejgaa.XCodecPuts
