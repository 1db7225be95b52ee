/- The plain laws of the codec's bytes: what is written is read; what is cut off is too short; no program in it. -/
import Derived.Test.YtjhcbggpbfejgaaCp
namespace Go.Proofs.Ytjhcbggpbfejgaa.Cp
open Go.RowKit Go.Proofs.YtjhcbggpbfejgaaW.PrintWords
set_option linter.unusedVariables false
set_option linter.unusedSimpArgs false

/-- A reader that sees no further than it reads; and once too short, always too short. -/
def Good {α : Type} (F : St → α × St) : Prop :=
  (∀ p q b, (F (p, b)).2.2 ≠ 150 → F (p ++ q, b) = ((F (p, b)).1, ((F (p, b)).2.1 ++ q, (F (p, b)).2.2))) ∧ ∀ p, (F (p, 150)).2.2 = 150

theorem pair_eq {α : Type} (x : α × St) (h : x.2.2 = 150) : x.2 = (x.2.1, 150) := by rw [← h]
theorem Good.bind {α β : Type} {F : St → α × St} {G : α → St → β × St} (hF : Good F) (hG : ∀ a, Good (G a)) : Good (fun s => G (F s).1 (F s).2) := by
  refine ⟨fun p q b h => ?_, fun p => ?_⟩
  · have h1 : (F (p, b)).2.2 ≠ 150 := by
      intro he
      apply h
      show (G (F (p, b)).1 (F (p, b)).2).2.2 = 150
      rw [pair_eq _ he]
      exact (hG _).2 _
    show G (F (p ++ q, b)).1 (F (p ++ q, b)).2 = _
    rw [hF.1 p q b h1]
    exact (hG (F (p, b)).1).1 (F (p, b)).2.1 q (F (p, b)).2.2 h
  · show (G (F (p, 150)).1 (F (p, 150)).2).2.2 = 150
    rw [pair_eq _ (hF.2 p)]
    exact (hG _).2 _
theorem Good.pure {α β : Type} (f : α → β) {F : St → α × St} (hF : Good F) : Good (fun s => (f (F s).1, (F s).2)) :=
  Good.bind (G := fun a s => (f a, s)) hF (fun a => ⟨fun _ _ _ _ => rfl, fun _ => rfl⟩)
theorem Good.take (n : Int) : Good (fun s => take s n) := by
  refine ⟨fun p q b h => ?_, fun p => by simp [Cp.take]⟩
  unfold Cp.take at h ⊢
  dsimp only at h ⊢
  by_cases c : b = 150 ∨ (p.length : Int) < n
  · rw [if_pos c] at h
    exact absurd rfl h
  · rw [if_neg c, if_neg (by rw [List.length_append]; omega)]
    have hn : n.toNat ≤ p.length := by omega
    simp only [List.take_append_of_le_length hn, List.drop_append_of_le_length hn]
theorem Good.raw : Good raw := Good.pure unum (Good.take 8)
theorem Good.numR : Good numR := Good.pure wrap64 Good.raw
theorem Good.txtR : Good txtR := Good.bind (G := fun n s => (strOfNums (Cp.take s n).1, (Cp.take s n).2)) Good.raw (fun n => Good.pure strOfNums (Good.take n))
theorem Good.rep (k : Nat) : Good (rep k) := by
  induction k with
  | zero => exact ⟨fun _ _ _ _ => rfl, fun _ => rfl⟩
  | succ k ih => exact Good.bind (G := fun a s => (a :: (Cp.rep k s).1, (Cp.rep k s).2)) Good.txtR (fun a => Good.pure (fun l => a :: l) ih)
theorem Good.manyGo {α : Type} {one : St → α × St} (h : Good one) (k : Nat) : Good (manyGo one k) := by
  induction k with
  | zero => exact ⟨fun _ _ _ _ => rfl, fun _ => rfl⟩
  | succ k ih =>
    have h2 := Good.bind (G := fun a s => (a :: (Cp.manyGo one k s).1, (Cp.manyGo one k s).2)) h (fun a => Good.pure (fun l => a :: l) ih)
    refine ⟨fun p q b hb => ?_, fun p => by simp [Cp.manyGo]⟩
    by_cases c : b = 150
    · simp [Cp.manyGo, c] at hb
    · have e : ∀ p, Cp.manyGo one (k + 1) (p, b) = ((one (p, b)).1 :: (Cp.manyGo one k (one (p, b)).2).1, (Cp.manyGo one k (one (p, b)).2).2) := fun p => by rw [Cp.manyGo, if_neg c]
      rw [e] at hb
      rw [e, e]
      exact h2.1 p q b hb
theorem Good.many {α : Type} {one : St → α × St} (h : Good one) : Good (many one) := by
  have h2 : Good (fun s : St => (Cp.manyGo one (Cp.raw s).1.toNat (counted s))) := by
    refine Good.bind (G := fun n s => Cp.manyGo one n.toNat (if (s.1.length : Int) < n then (s.1, 150) else s)) Good.raw (fun n => ?_)
    refine ⟨fun p q b hb => ?_, fun p => ?_⟩
    · by_cases c : (p.length : Int) < n
      · simp only [c, if_true] at hb
        exact absurd ((Good.manyGo h _).2 _) hb
      · simp only [c, if_false] at hb ⊢
        rw [if_neg (by rw [List.length_append]; omega)]
        exact (Good.manyGo h _).1 p q b hb
    · simp only [ite_self]
      exact (Good.manyGo h _).2 _
  exact h2
theorem Good.byteR (m : Int) : Good (byteR m) := by
  refine ⟨fun p q b h => ?_, fun p => ?_⟩
  · have hf : ∀ s : St, s.2 = 150 → (failS s 31).2 = 150 := fun s hs => by simp [failS, hs]
    have h1 : (Cp.take (p, b) 1).2.2 ≠ 150 := by
      intro he
      apply h
      unfold Cp.byteR
      split
      · exact he
      · dsimp only
        split
        · exact hf _ he
        · exact he
    have ht : Cp.take (p ++ q, b) 1 = _ := (Good.take 1).1 p q b h1
    unfold Cp.byteR
    rw [ht]
    dsimp only
    by_cases c : (Cp.take (p, b) 1).1.length = 0
    · rw [if_pos c, if_pos c]
    · rw [if_neg c, if_neg c]
      by_cases c2 : m ≤ rd (Cp.take (p, b) 1).1 0
      · simp only [c2, if_true]
        unfold failS
        by_cases c3 : (Cp.take (p, b) 1).2.2 = 0
        · simp [c3]
        · simp [c3]
      · simp only [c2, if_false]
  · have : Cp.take (p, 150) 1 = ([], (p, 150)) := by simp [Cp.take]
    simp [Cp.byteR, this]
theorem Good.cmdR : Good cmdR := by
  have h : Good (fun s => (let o := Cp.numR s; let x := Cp.rep 6 o.2; let n := Cp.many Cp.txtR x.2; let a := Cp.numR n.2; let b := Cp.numR a.2; let c := Cp.numR b.2; (Cmd.of o.1 x.1 n.1 a.1 b.1 c.1, c.2))) :=
    Good.bind (G := fun o s => (let x := Cp.rep 6 s; let n := Cp.many Cp.txtR x.2; let a := Cp.numR n.2; let b := Cp.numR a.2; let c := Cp.numR b.2; (Cmd.of o x.1 n.1 a.1 b.1 c.1, c.2))) Good.numR fun o =>
    Good.bind (G := fun x s => (let n := Cp.many Cp.txtR s; let a := Cp.numR n.2; let b := Cp.numR a.2; let c := Cp.numR b.2; (Cmd.of o x n.1 a.1 b.1 c.1, c.2))) (Good.rep 6) fun x =>
    Good.bind (G := fun n s => (let a := Cp.numR s; let b := Cp.numR a.2; let c := Cp.numR b.2; (Cmd.of o x n a.1 b.1 c.1, c.2))) (Good.many Good.txtR) fun n =>
    Good.bind (G := fun a s => (let b := Cp.numR s; let c := Cp.numR b.2; (Cmd.of o x n a b.1 c.1, c.2))) Good.numR fun a =>
    Good.bind (G := fun b s => (let c := Cp.numR s; (Cmd.of o x n a b c.1, c.2))) Good.numR fun b =>
    Good.pure (fun c => Cmd.of o x n a b c) Good.numR
  exact h
theorem Good.logR : Good logR := by
  have h : Good (fun s => (let t := Cp.numR s; let k := Cp.byteR 3 t.2;
      if k.1 = 1 then ((⟨t.1, k.1, (Cp.cmdR k.2).1, []⟩ : Log), (Cp.cmdR k.2).2) else if k.1 = 2 then (⟨t.1, k.1, zeroCmd, (Cp.many Cp.numR k.2).1⟩, (Cp.many Cp.numR k.2).2) else (⟨t.1, k.1, zeroCmd, []⟩, k.2))) := by
    refine Good.bind (G := fun t s => (let k := Cp.byteR 3 s; if k.1 = 1 then ((⟨t, k.1, (Cp.cmdR k.2).1, []⟩ : Log), (Cp.cmdR k.2).2) else if k.1 = 2 then (⟨t, k.1, zeroCmd, (Cp.many Cp.numR k.2).1⟩, (Cp.many Cp.numR k.2).2) else (⟨t, k.1, zeroCmd, []⟩, k.2))) Good.numR fun t => ?_
    refine Good.bind (G := fun k s => (if k = 1 then ((⟨t, k, (Cp.cmdR s).1, []⟩ : Log), (Cp.cmdR s).2) else if k = 2 then (⟨t, k, zeroCmd, (Cp.many Cp.numR s).1⟩, (Cp.many Cp.numR s).2) else (⟨t, k, zeroCmd, []⟩, s))) (Good.byteR 3) fun k => ?_
    by_cases k1 : k = 1
    · simp only [k1, if_true]
      exact Good.pure (fun c => (⟨t, 1, c, []⟩ : Log)) Good.cmdR
    · simp only [k1, if_false]
      by_cases k2 : k = 2
      · simp only [k2, if_true]
        exact Good.pure (fun c => (⟨t, 2, zeroCmd, c⟩ : Log)) (Good.many Good.numR)
      · simp only [k2, if_false]
        exact ⟨fun _ _ _ _ => rfl, fun _ => rfl⟩
  exact h

/-- What is cut off of what is read whole, is too short. -/
theorem Good.cut {α : Type} {F : St → α × St} (h : Good F) {xs : List Int} (hw : (F (xs, 0)).2.1 = []) (k : Nat) (hk : k < xs.length) : (F (xs.take k, 0)).2.2 = 150 := by
  by_cases c : (F (xs.take k, 0)).2.2 = 150
  · exact c
  · have h1 := h.1 (xs.take k) (xs.drop k) 0 c
    rw [List.take_append_drop] at h1
    rw [h1] at hw
    have h2 := (List.append_eq_nil_iff.1 hw).2
    have := congrArg List.length h2
    simp at this
    omega
theorem Good.more {α : Type} {F : St → α × St} (h : Good F) {xs : List Int} {a : α} (hw : F (xs, 0) = (a, ([], 0))) (ys : List Int) : F (xs ++ ys, 0) = (a, (ys, 0)) := by
  have h1 := h.1 xs ys 0 (by rw [hw]; simp)
  rw [h1, hw]
  rfl

/-! ### What is written is read -/
theorem unum_be8 (n : Int) : unum (be8 n) = n % 18446744073709551616 := by
  simp only [be8, List.range, List.range.loop, List.map_cons, List.map_nil, unum, List.foldl_cons, List.foldl_nil, byteAt]
  omega
theorem take_app (a t : List Int) (n : Int) (hn : n = a.length) : take (a ++ t, 0) n = (a, (t, 0)) := by
  subst hn
  unfold take
  rw [if_neg (by simp; omega), Int.toNat_natCast]
  simp
theorem raw_be8 (n : Int) (t : List Int) : raw (be8 n ++ t, 0) = (n % 18446744073709551616, (t, 0)) := by
  rw [raw, take_app _ _ 8 (by rw [be8_len]; rfl), unum_be8]
/-- A number of 64 bits. -/
def I64 (n : Int) : Prop := -9223372036854775808 ≤ n ∧ n ≤ 9223372036854775807
theorem numR_be8 (n : Int) (h : I64 n) (t : List Int) : numR (be8 n ++ t, 0) = (n, (t, 0)) := by
  rw [numR, raw_be8]
  obtain ⟨h1, h2⟩ := h
  have : wrap64 (n % 18446744073709551616) = n := by unfold wrap64; omega
  rw [this]
theorem txtR_txt (s : ByteArray) (h : s.size < 140737488355328) (t : List Int) : txtR (txt s ++ t, 0) = (s, (t, 0)) := by
  rw [txtR, txt, List.append_assoc, raw_be8]
  have : (s.size : Int) % 18446744073709551616 = s.size := by omega
  rw [this, take_app _ _ _ (by rw [bytesOf_length]), str_bytesOf]
theorem rep_txts (l : List ByteArray) (h : ∀ s ∈ l, s.size < 140737488355328) (t : List Int) : rep l.length (txts l ++ t, 0) = (l, (t, 0)) := by
  induction l with
  | nil => rfl
  | cons s l ih =>
    have e : txts (s :: l) ++ t = txt s ++ (txts l ++ t) := by simp [txts]
    rw [e, List.length_cons, rep, txtR_txt s (h s (by simp)), ih (fun x hx => h x (by simp [hx]))]
theorem manyGo_enc {α : Type} (one : St → α × St) (f : α → List Int) (P : α → Prop) (h1 : ∀ a, P a → ∀ t, one (f a ++ t, 0) = (a, (t, 0))) (l : List α) (hl : ∀ a ∈ l, P a) (t : List Int) : manyGo one l.length (l.flatMap f ++ t, 0) = (l, (t, 0)) := by
  induction l with
  | nil => rfl
  | cons a l ih =>
    have e : (a :: l).flatMap f ++ t = f a ++ (l.flatMap f ++ t) := by simp
    rw [e, List.length_cons, manyGo, if_neg (by simp), h1 a (hl a (by simp)), ih (fun x hx => hl x (by simp [hx]))]
theorem many_enc {α : Type} (one : St → α × St) (f : α → List Int) (P : α → Prop) (h1 : ∀ a, P a → ∀ t, one (f a ++ t, 0) = (a, (t, 0))) (hf : ∀ a, 1 ≤ (f a).length) (l : List α) (hl : ∀ a ∈ l, P a) (hlen : l.length < 140737488355328) (t : List Int) :
    many one (be8 (l.length : Int) ++ (l.flatMap f ++ t), 0) = (l, (t, 0)) := by
  have hm : (l.length : Int) % 18446744073709551616 = l.length := by omega
  have hle : l.length ≤ (l.flatMap f).length := by
    clear hl hlen hm
    induction l with
    | nil => simp
    | cons a l ih => have := hf a; simp only [List.flatMap_cons, List.length_append, List.length_cons]; omega
  rw [many, counted, raw_be8, hm]
  dsimp only
  rw [if_neg (by rw [List.length_append]; omega), Int.toNat_natCast]
  exact manyGo_enc one f P h1 l hl t

/-- What every command of a machine meets. -/
structure Cmd.Ok (c : Cmd) : Prop where
  op : I64 c.op
  at_ : I64 c.at_
  session : I64 c.session
  seq : I64 c.seq
theorem txts_mem (l : List ByteArray) (s : ByteArray) (h : s ∈ l) : s.size ≤ (txts l).length := by
  induction l with
  | nil => simp at h
  | cons x l ih =>
    have e : txts (x :: l) = txt x ++ txts l := by simp [txts]
    rw [e, List.length_append, txt_len]
    rcases List.mem_cons.1 h with rfl | h
    · omega
    · have := ih h; omega
theorem cmdR_enc (c : Cmd) (h : c.Ok) (hl : (enc c).length < 140737488355328) (t : List Int) : cmdR (enc c ++ t, 0) = (c, (t, 0)) := by
  rw [enc_len] at hl
  have hn : c.names.length ≤ (txts c.names).length := by
    generalize c.names = l
    induction l with
    | nil => simp
    | cons x l ih =>
      have e : txts (x :: l) = txt x ++ txts l := by simp [txts]
      rw [e, List.length_append, txt_len, List.length_cons]; omega
  have h6 := fun t => rep_txts c.six (fun s hs => by have := txts_mem _ s hs; omega) t
  have hN := fun t => many_enc txtR txt (fun s => s.size < 140737488355328) txtR_txt (fun s => by rw [txt_len]; omega) c.names (fun s hs => by have := txts_mem _ s hs; omega) (by omega) t
  have e : enc c ++ t = be8 c.op ++ (txts c.six ++ (be8 (c.names.length : Int) ++ (txts c.names ++ (be8 c.at_ ++ (be8 c.session ++ (be8 c.seq ++ t)))))) := by simp [enc, List.append_assoc]
  have e6 : c.six.length = 6 := rfl
  rw [e6] at h6
  rw [e]
  unfold cmdR
  simp only [numR_be8 _ h.op, h6]
  unfold txts
  simp only [hN, numR_be8 _ h.at_, numR_be8 _ h.session, numR_be8 _ h.seq]
  rfl
theorem getCommand_enc (c : Cmd) (h : c.Ok) (hl : (enc c).length < 140737488355328) : getCommand (enc c) = (c, 0) := by
  have := cmdR_enc c h hl []
  rw [List.append_nil] at this
  rw [getCommand, this]
  rfl
theorem getCommand_cut (c : Cmd) (h : c.Ok) (hl : (enc c).length < 140737488355328) (k : Nat) (hk : k < (enc c).length) : (getCommand ((enc c).take k)).2 = 150 := by
  have h1 := cmdR_enc c h hl []
  rw [List.append_nil] at h1
  have h2 := Good.cmdR.cut (xs := enc c) (by rw [h1]) k hk
  rw [getCommand, doneE]
  rw [h2]
  simp
theorem getCommand_more (c : Cmd) (h : c.Ok) (hl : (enc c).length < 140737488355328) (x : Int) : (getCommand (enc c ++ [x])).2 = 151 := by
  rw [getCommand, cmdR_enc c h hl [x]]
  simp [doneE]
theorem logR_enc (term : Int) (ht : I64 term) (c : Cmd) (h : c.Ok) (hl : (enc c).length < 140737488355328) (t : List Int) : logR (be8 term ++ [1] ++ enc c ++ t, 0) = (⟨term, 1, c, []⟩, (t, 0)) := by
  have e : be8 term ++ [1] ++ enc c ++ t = be8 term ++ ([1] ++ (enc c ++ t)) := by simp
  have hb : byteR 3 ([1] ++ (enc c ++ t), 0) = (1, (enc c ++ t, 0)) := by
    rw [byteR, take_app [1] _ 1 rfl]
    simp [rd]
  rw [e]
  unfold logR
  simp only [numR_be8 _ ht, hb, cmdR_enc c h hl]
  rfl
theorem getLog_cut (term : Int) (ht : I64 term) (c : Cmd) (h : c.Ok) (hl : (enc c).length < 140737488355328) (k : Nat) (hk : k < (be8 term ++ [1] ++ enc c).length) : (getLog ((be8 term ++ [1] ++ enc c).take k)).2 = 150 := by
  have h1 := logR_enc term ht c h hl []
  rw [List.append_nil] at h1
  have h2 := Good.logR.cut (xs := be8 term ++ [1] ++ enc c) (by rw [h1]) k hk
  rw [getLog, doneE]
  rw [h2]
  simp
theorem xor_ne (x y : Int) (hy : y % 18446744073709551616 ≠ 0) : bits .xor .i64 x y ≠ x := by
  intro h
  have e : ∀ n : Int, BitVec.ofInt 64 (IntKind.i64.wrap n) = BitVec.ofInt 64 n := by
    intro n
    apply BitVec.eq_of_toNat_eq
    rw [BitVec.toNat_ofInt, BitVec.toNat_ofInt]
    have h1 : IntKind.i64.wrap n = n % 18446744073709551616 ∨ IntKind.i64.wrap n = n % 18446744073709551616 - 18446744073709551616 := by
      simp only [IntKind.wrap, IntKind.signed, IntKind.bits]
      by_cases c : n % 2 ^ 64 ≥ 2 ^ (64 - 1)
      · right; simp; omega
      · left; simp; omega
    omega
  have h2 := congrArg (BitVec.ofInt 64) h
  unfold bits at h2
  rw [e] at h2
  have h3 : BitVec.ofInt 64 (((BitVec.ofInt 64 x ^^^ BitVec.ofInt 64 y).toNat : Nat) : Int) = BitVec.ofInt 64 x ^^^ BitVec.ofInt 64 y := by
    apply BitVec.eq_of_toNat_eq
    rw [BitVec.toNat_ofInt]
    have := (BitVec.ofInt 64 x ^^^ BitVec.ofInt 64 y).isLt
    omega
  have h4 : BitVec.ofInt 64 x ^^^ BitVec.ofInt 64 y = BitVec.ofInt 64 x := h3.symm.trans h2
  have h5 : BitVec.ofInt 64 y = 0#64 := by
    have := congrArg (fun z => BitVec.ofInt 64 x ^^^ z) h4
    simpa [← BitVec.xor_assoc] using this
  have h6 := congrArg BitVec.toNat h5
  rw [BitVec.toNat_ofInt] at h6
  simp at h6
  omega
end Go.Proofs.Ytjhcbggpbfejgaa.Cp
