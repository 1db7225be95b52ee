/- The plain laws of the codec's bytes: what is written is read; what is cut off is too short; no program in it. -/
import Derived.Test.YtjhcbggpbfejgaaCp
namespace Go.Proofs.Ytjhcbggpbfejgaa.Cp
open Go.RowKit Go.Proofs.zjt.zjq
set_option linter.unusedVariables false
set_option linter.unusedSimpArgs false
theorem unum_be8 (n : Int) : unum (be8 n) = n % 18446744073709551616 := by
  simp only [be8, List.range, List.range.loop, List.map_cons, List.map_nil, unum, List.foldl_cons, List.foldl_nil, byteAt]
  omega
theorem take_app (a t : List Int) (n : Int) (hn : n = a.length) : take (a ++ t, 0) n = (a, (t, 0)) := by
  subst hn
  unfold take
  rw [if_neg (by simp; omega), Int.toNat_natCast]
  simp
theorem ziz (n : Int) (t : List Int) : raw (be8 n ++ t, 0) = (n % 18446744073709551616, (t, 0)) := by
  rw [raw, take_app _ _ 8 (by rw [zbo]; rfl), unum_be8]
/-- A number of 64 bits. -/
def I64 (n : Int) : Prop := -9223372036854775808 ≤ n ∧ n ≤ 9223372036854775807
theorem zhr (n : Int) (h : I64 n) (t : List Int) : numR (be8 n ++ t, 0) = (n, (t, 0)) := by
  rw [numR, ziz]
  obtain ⟨h1, h2⟩ := h
  have : wrap64 (n % 18446744073709551616) = n := by unfold wrap64; omega
  rw [this]
theorem txtR_txt (s : ByteArray) (h : s.size < 140737488355328) (t : List Int) : txtR (txt s ++ t, 0) = (s, (t, 0)) := by
  rw [txtR, txt, List.append_assoc, ziz]
  have : (s.size : Int) % 18446744073709551616 = s.size := by omega
  rw [this, take_app _ _ _ (by rw [bytesOf_length]), str_bytesOf]
theorem rep_txts (l : List ByteArray) (h : ∀ s ∈ l, s.size < 140737488355328) (t : List Int) : rep l.length (txts l ++ t, 0) = (l, (t, 0)) := by
  induction l with
  | nil => rfl
  | cons s l ih =>
    have e : txts (s :: l) ++ t = txt s ++ (txts l ++ t) := by simp [txts]
    rw [e, List.length_cons, rep, txtR_txt s (h s (by simp)), ih (fun x hx => h x (by simp [hx]))]
theorem manyGo_enc {α : Type} (one : St → α × St) (f : α → List Int) (P : α → Prop) (h1 : ∀ a, P a → ∀ t, one (f a ++ t, 0) = (a, (t, 0))) (l : List α) (hl : ∀ a ∈ l, P a) (t : List Int) : manyGo one l.length (l.flatMap f ++ t, 0) = (l, (t, 0)) := by
  induction l with
  | nil => rfl
  | cons a l ih =>
    have e : (a :: l).flatMap f ++ t = f a ++ (l.flatMap f ++ t) := by simp
    rw [e, List.length_cons, manyGo, if_neg (by simp), h1 a (hl a (by simp)), ih (fun x hx => hl x (by simp [hx]))]
theorem many_enc {α : Type} (one : St → α × St) (f : α → List Int) (P : α → Prop) (h1 : ∀ a, P a → ∀ t, one (f a ++ t, 0) = (a, (t, 0))) (hf : ∀ a, 1 ≤ (f a).length) (l : List α) (hl : ∀ a ∈ l, P a) (hlen : l.length < 140737488355328) (t : List Int) :
    many one (be8 (l.length : Int) ++ (l.flatMap f ++ t), 0) = (l, (t, 0)) := by
  have hm : (l.length : Int) % 18446744073709551616 = l.length := by omega
  have hle : l.length ≤ (l.flatMap f).length := by
    clear hl hlen hm
    induction l with
    | nil => simp
    | cons a l ih => have := hf a; simp only [List.flatMap_cons, List.length_append, List.length_cons]; omega
  rw [many, counted, ziz, hm]
  dsimp only
  rw [if_neg (by rw [List.length_append]; omega), Int.toNat_natCast]
  exact manyGo_enc one f P h1 l hl t
/-- What every command of a machine meets. -/
structure Cmd.Ok (c : Cmd) : Prop where
  op : I64 c.op
  at_ : I64 c.at_
  session : I64 c.session
  seq : I64 c.seq
theorem txts_mem (l : List ByteArray) (s : ByteArray) (h : s ∈ l) : s.size ≤ (txts l).length := by
  induction l with
  | nil => simp at h
  | cons x l ih =>
    have e : txts (x :: l) = txt x ++ txts l := by simp [txts]
    rw [e, List.length_append, zdh]
    rcases List.mem_cons.1 h with rfl | h
    · omega
    · have := ih h; omega
theorem cmdR_enc (c : Cmd) (h : c.Ok) (hl : (enc c).length < 140737488355328) (t : List Int) : cmdR (enc c ++ t, 0) = (c, (t, 0)) := by
  rw [zhk] at hl
  have hn : c.names.length ≤ (txts c.names).length := by
    generalize c.names = l
    induction l with
    | nil => simp
    | cons x l ih =>
      have e : txts (x :: l) = txt x ++ txts l := by simp [txts]
      rw [e, List.length_append, zdh, List.length_cons]; omega
  have h6 := fun t => rep_txts c.six (fun s hs => by have := txts_mem _ s hs; omega) t
  have hN := fun t => many_enc txtR txt (fun s => s.size < 140737488355328) txtR_txt (fun s => by rw [zdh]; omega) c.names (fun s hs => by have := txts_mem _ s hs; omega) (by omega) t
  have e : enc c ++ t = be8 c.op ++ (txts c.six ++ (be8 (c.names.length : Int) ++ (txts c.names ++ (be8 c.at_ ++ (be8 c.session ++ (be8 c.seq ++ t)))))) := by simp [enc, List.append_assoc]
  have e6 : c.six.length = 6 := rfl
  rw [e6] at h6
  rw [e]
  unfold cmdR
  simp only [zhr _ h.op, h6]
  unfold txts
  simp only [hN, zhr _ h.at_, zhr _ h.session, zhr _ h.seq]
  rfl
theorem getCommand_enc (c : Cmd) (h : c.Ok) (hl : (enc c).length < 140737488355328) : getCommand (enc c) = (c, 0) := by
  have := cmdR_enc c h hl []
  rw [List.append_nil] at this
  rw [getCommand, this]
  rfl
end Go.Proofs.Ytjhcbggpbfejgaa.Cp
