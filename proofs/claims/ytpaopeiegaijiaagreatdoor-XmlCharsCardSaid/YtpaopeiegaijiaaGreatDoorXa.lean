/- The reader of documents: its place in memory, what keeps it. -/
import Derived.Test.YtpaopeiegaijiaaGreatDoorXl
import Derived.WalkKit
import Derived.WalkMore
import Derived.Below
import Derived.BigQuiet
import Derived.Deep.QuietTactic
import Derived.OwnWalk
import Derived.KernelRfl
import Derived.WalkLawsBesides
namespace Go.Proofs.YtpaopeiegaijiaaGreatDoor
open Go.RowKit Go.Shelf Go.Lib Go.Joins
set_option linter.unusedVariables false
set_option linter.unusedSimpArgs false
/-- What must panics with. -/
def flt : PanicEntry := { v := .iface 107 (.agg #[]), recovered := false }
theorem must_ok (q : Value) (w : World) : Calls Tryz.prog 60 #[q, .bool true] w fun e w' => e = .returned (.tuple #[]) ∧ w' = w := by
  go_enter Tryz.func60, Tryz.ntmps60
  go_wp2
  go_end0
  exact ⟨rfl, rfl⟩
theorem must_bad (q : Value) (w : World) : Calls Tryz.prog 60 #[q, .bool false] w fun e w' => e = .panicked [flt] ∧ w' = w := by
  go_enter Tryz.func60, Tryz.ntmps60
  go_wp2
  exact ⟨rfl, rfl, rfl⟩
/-- A piece of a document. -/
structure Pc where
  kind : Int
  space : Int
  name : ByteArray
  text : ByteArray
deriving DecidableEq
def pcCells (p : Pc) : List Value := [.int .i64 p.kind, .int .i64 p.space, .string p.name, .string p.text]
def pcs (l : List Pc) : List Value := l.flatMap pcCells
theorem pcs_len (l : List Pc) : (pcs l).length = l.length * 4 := by
  induction l with
  | nil => rfl
  | cons a l ih => simp only [pcs, List.flatMap_cons, List.length_append, List.length_cons] at ih ⊢; rw [ih]; simp only [pcCells, List.length_cons, List.length_nil]; omega
theorem pcs_app (l m : List Pc) : pcs (l ++ m) = pcs l ++ pcs m := by simp [pcs]
/-- The reader's block: what is left of the text, the pieces, the characters so far. -/
structure RdAt (B q : Nat) (s : ByteArray) (ps : List Pc) (t : List UInt8) (v p u : Value) (w : World) : Prop where
  low : B ≤ q
  blk : w.heap[q]? = some (.cells #[.string s, v, p, u] 111 (0, 0))
  own : w.ownsRow B 60 4 v ps.length (pcs ps)
  txt : w.ownsRow B 5 1 u t.length (Lib.byteCells t)
  adr : p = .pointer none ∨ p = .pointer (some ⟨q, 2, none⟩)
def Rd (B q : Nat) (s : List UInt8) (ps : List Pc) (t : List UInt8) (w : World) : Prop := ∃ v p u, RdAt B q ⟨s.toArray⟩ ps t v p u w
/-- The blocks that the reader at q may write. -/
def ownOf (q : Nat) (w : World) (k : Nat) : Prop := k = q ∨ ∃ cs T fr, w.heap[q]? = some (.cells cs T fr) ∧ ∃ (j : Nat) (v : Value), cs[j]? = some v ∧ v.ownBlock = some k
/-- What was there is as it was, but for some blocks. -/
structure Kp (own : Nat → Prop) (w w' : World) : Prop where
  os : w'.os = w.os
  tape : w'.tape = w.tape
  output : w'.output = w.output
  size : w.heap.size ≤ w'.heap.size
  block : ∀ k, k < w.heap.size → ¬ own k → w'.heap[k]? = w.heap[k]?
theorem Kp.refl (own : Nat → Prop) (w : World) : Kp own w w := ⟨rfl, rfl, rfl, Nat.le_refl _, fun _ _ _ => rfl⟩
theorem Kp.trans {o1 o2 : Nat → Prop} {w w1 w2 : World} (h1 : Kp o1 w w1) (h2 : Kp o2 w1 w2) (h : ∀ k, k < w.heap.size → o2 k → o1 k) : Kp o1 w w2 :=
  ⟨h2.os.trans h1.os, h2.tape.trans h1.tape, h2.output.trans h1.output, Nat.le_trans h1.size h2.size, fun k hk hn => (h2.block k (Nat.lt_of_lt_of_le hk h1.size) fun h3 => hn (h k hk h3)).trans (h1.block k hk hn)⟩
theorem Kp.of_below {own : Nat → Prop} {w w' : World} (h : Below w.heap.size w w') : Kp own w w' := ⟨h.os, h.tape, h.output, h.size, fun k hk _ => h.block k hk⟩
structure St (q : Nat) (w w' : World) : Prop where
  kp : Kp (ownOf q w) w w'
  own : ∀ k, k < w.heap.size → ownOf q w' k → ownOf q w k
theorem St.refl (q : Nat) (w : World) : St q w w := ⟨Kp.refl _ _, fun _ _ h => h⟩
theorem St.trans {q : Nat} {w w1 w2 : World} (h1 : St q w w1) (h2 : St q w1 w2) : St q w w2 :=
  ⟨h1.kp.trans h2.kp h1.own, fun k hk h => h1.own k hk (h2.own k (Nat.lt_of_lt_of_le hk h1.kp.size) h)⟩
theorem St.kp_trans {q : Nat} {w w1 w2 : World} (h1 : St q w w1) (h2 : Kp (ownOf q w1) w1 w2) : Kp (ownOf q w) w w2 := h1.kp.trans h2 h1.own
section
variable {B q : Nat} {s : ByteArray} {ps : List Pc} {t : List UInt8} {v p u : Value} {w : World}
theorem RdAt.lt (h : RdAt B q s ps t v p u w) : q < w.heap.size := by
  rcases Nat.lt_or_ge q w.heap.size with h' | h'
  · exact h'
  · have := h.blk; simp [Array.getElem?_eq_none h'] at this
theorem RdAt.c0 (h : RdAt B q s ps t v p u w) : w.cell? ⟨q, 0, none⟩ = some (.string s) := by rw [Lib.cell_of_heap h.blk]; rfl
theorem RdAt.c1 (h : RdAt B q s ps t v p u w) : w.cell? ⟨q, 1, none⟩ = some v := by rw [Lib.cell_of_heap h.blk]; rfl
theorem RdAt.c2 (h : RdAt B q s ps t v p u w) : w.cell? ⟨q, 2, none⟩ = some p := by rw [Lib.cell_of_heap h.blk]; rfl
theorem RdAt.c3 (h : RdAt B q s ps t v p u w) : w.cell? ⟨q, 3, none⟩ = some u := by rw [Lib.cell_of_heap h.blk]; rfl
theorem RdAt.fz (h : RdAt B q s ps t v p u w) (j : Nat) : w.frozen? ⟨q, j, none⟩ = false := Lib.frozen_of_heap h.blk j
theorem RdAt.shape (h : RdAt B q s ps t v p u w) : w.shape? q = some (111, 4) := by simp [World.shape?, h.blk]
theorem own_ne {w : World} {B T e sz n b : Nat} {x : Value} {xs : List Value} {cs : Array Value} {fr : Nat × Nat} (ho : w.ownsRow B e sz x n xs) (hb : w.heap[b]? = some (.cells cs T fr)) (hT : T ≠ e) : x.ownBlock ≠ some b := by
  rcases ho.2 with ⟨rfl, _⟩ | ⟨g, cap, cur, rfl, _, hg, _⟩
  · simp [Value.ownBlock]
  · intro h
    simp only [Value.ownBlock, Option.some.injEq] at h
    subst h
    rw [hg] at hb
    simp only [Option.some.injEq, Obj.cells.injEq] at hb
    exact hT hb.2.1.symm
theorem RdAt.nev (h : RdAt B q s ps t v p u w) : v.ownBlock ≠ some q := own_ne h.own h.blk (by decide)
theorem RdAt.neu (h : RdAt B q s ps t v p u w) : u.ownBlock ≠ some q := own_ne h.txt h.blk (by decide)
theorem RdAt.owns (h : RdAt B q s ps t v p u w) (k : Nat) : ownOf q w k ↔ k = q ∨ v.ownBlock = some k ∨ u.ownBlock = some k := by
  unfold ownOf
  constructor
  · rintro (h1 | ⟨cs, T, fr, h1, j, x, h2, h3⟩)
    · exact .inl h1
    · rw [h.blk] at h1
      simp only [Option.some.injEq, Obj.cells.injEq] at h1
      obtain ⟨rfl, _, _⟩ := h1
      match j, h2 with
      | 0, h2 => simp at h2; subst h2; simp [Value.ownBlock] at h3
      | 1, h2 => simp at h2; subst h2; exact .inr (.inl h3)
      | 2, h2 => simp at h2; subst h2; rcases h.adr with rfl | rfl <;> simp [Value.ownBlock] at h3
      | 3, h2 => simp at h2; subst h2; exact .inr (.inr h3)
  · rintro (h1 | h1 | h1)
    · exact .inl h1
    · exact .inr ⟨_, _, _, h.blk, 1, v, rfl, h1⟩
    · exact .inr ⟨_, _, _, h.blk, 3, u, rfl, h1⟩
theorem RdAt.own_ge (h : RdAt B q s ps t v p u w) (k : Nat) (hk : ownOf q w k) : B ≤ k := by
  rcases (h.owns k).1 hk with rfl | h1 | h1
  · exact h.low
  · rcases h.own.2 with ⟨rfl, _⟩ | ⟨g, cap, cur, rfl, hg, _⟩
    · simp [Value.ownBlock] at h1
    · simp only [Value.ownBlock, Option.some.injEq] at h1; omega
  · rcases h.txt.2 with ⟨rfl, _⟩ | ⟨g, cap, cur, rfl, hg, _⟩
    · simp [Value.ownBlock] at h1
    · simp only [Value.ownBlock, Option.some.injEq] at h1; omega
theorem RdAt.below (h : RdAt B q s ps t v p u w) {w' : World} (hk : Kp (ownOf q w) w w') (hB : B ≤ w.heap.size) : Below B w w' :=
  ⟨hk.os, hk.tape, hk.output, hk.size, fun k h1 => hk.block k (by omega) fun h2 => by have := h.own_ge k h2; omega⟩
/-- Nothing of the reader's has been written. -/
theorem RdAt.kept (h : RdAt B q s ps t v p u w) {w' : World} (hb : Below w.heap.size w w') : RdAt B q s ps t v p u w' ∧ St q w w' := by
  have hq : w'.heap[q]? = w.heap[q]? := hb.block q h.lt
  have kr : ∀ {T sz x n xs}, w.ownsRow B T sz x n xs → w'.ownsRow B T sz x n xs := by
    rintro T sz x n xs ⟨h1, h2⟩
    refine ⟨h1, ?_⟩
    rcases h2 with h2 | ⟨g, cap, cur, e1, e2, e3, e4⟩
    · exact .inl h2
    · refine .inr ⟨g, cap, cur, e1, e2, ?_, e4⟩
      rw [hb.block g (by
        rcases Nat.lt_or_ge g w.heap.size with h' | h'
        · exact h'
        · simp [Array.getElem?_eq_none h'] at e3)]
      exact e3
  have hR : RdAt B q s ps t v p u w' := ⟨h.low, hq.trans h.blk, kr h.own, kr h.txt, h.adr⟩
  exact ⟨hR, Kp.of_below hb, fun k _ h1 => (h.owns k).2 ((hR.owns k).1 h1)⟩
/-- The text is another. -/
theorem RdAt.putS (h : RdAt B q s ps t v p u w) (s' : ByteArray) : RdAt B q s' ps t v p u (w.setCell ⟨q, 0, none⟩ (.string s')) ∧ St q w (w.setCell ⟨q, 0, none⟩ (.string s')) := by
  have hb : (w.setCell ⟨q, 0, none⟩ (.string s')).heap[q]? = some (.cells #[.string s', v, p, u] 111 (0, 0)) := by
    simp [World.setCell, Array.getElem?_modify, h.blk]
  have ho : ∀ k, k ≠ q → (w.setCell ⟨q, 0, none⟩ (.string s')).heap[k]? = w.heap[k]? := fun k hk => Below.heap_setCell _ _ _ _ (fun e => hk (by simp [e]))
  have kr : ∀ {T sz x n xs}, w.ownsRow B T sz x n xs → x.ownBlock ≠ some q → (w.setCell ⟨q, 0, none⟩ (.string s')).ownsRow B T sz x n xs := by
    rintro T sz x n xs ⟨h1, h2⟩ hne
    refine ⟨h1, ?_⟩
    rcases h2 with h2 | ⟨g, cap, cur, e1, e2, e3, e4⟩
    · exact .inl h2
    · refine .inr ⟨g, cap, cur, e1, e2, ?_, e4⟩
      rw [ho g (fun e => hne (by rw [e1, e]; rfl))]
      exact e3
  have hR : RdAt B q s' ps t v p u (w.setCell ⟨q, 0, none⟩ (.string s')) := ⟨h.low, hb, kr h.own h.nev, kr h.txt h.neu, h.adr⟩
  refine ⟨hR, ⟨rfl, rfl, rfl, by simp [World.setCell], fun k _ hn => ho k fun e => hn (Or.inl e)⟩, fun k _ h1 => (h.owns k).2 ((hR.owns k).1 h1)⟩
end
theorem rd_put {B q : Nat} {s : ByteArray} {ps : List Pc} {t : List UInt8} {v p u : Value} {w : World} (h : RdAt B q s ps t v p u w) {x : ByteArray} {s' : List UInt8} (hx : x = ⟨s'.toArray⟩) :
    Rd B q s' ps t (w.setCell ⟨q, 0, none⟩ (.string x)) ∧ St q w (w.setCell ⟨q, 0, none⟩ (.string x)) := by
  subst hx
  exact ⟨⟨v, p, u, (h.putS _).1⟩, (h.putS _).2⟩
/-- How a call that reads ends: with a value and the reader behind it; or with a fault. -/
def Res (B q : Nat) (w : World) (r : Option (Value × List UInt8 × List Pc × List UInt8)) (e : Ending) (w' : World) : Prop :=
  match r with
  | some (v, s, ps, t) => e = .returned v ∧ Rd B q s ps t w' ∧ St q w w'
  | none => e = .panicked [flt] ∧ Kp (ownOf q w) w w'
theorem ext_l (l : List UInt8) (a b : Nat) : (⟨l.toArray⟩ : ByteArray).extract a b = ⟨((l.drop a).take (b - a)).toArray⟩ := by
  apply ByteArray.ext
  apply Array.toList_inj.1
  simp [ByteArray.data_extract]
def skipL (t s : List UInt8) : Option (List UInt8) := if t.isPrefixOf s then some (s.drop t.length) else none
set_option maxRecDepth 100000 in
theorem skip_any {B q : Nat} {s : List UInt8} {ps : List Pc} {t : List UInt8} (l : List UInt8) (w : World) (h : Rd B q s ps t w) :
    Calls Tryz.prog 55 #[.pointer (some ⟨q, 0, none⟩), .string ⟨l.toArray⟩] w fun e w' => Res B q w ((skipL l s).map fun s' => (.tuple #[], s', ps, t)) e w' := by
  obtain ⟨v, p, u, hA⟩ := h
  have c0 := hA.c0
  have f0 := hA.fz 0
  have hp := Any.strings_HasPrefix Tryz.laysHasPrefix ⟨s.toArray⟩ ⟨l.toArray⟩ w
  change Calls Tryz.prog 54 _ _ _ at hp
  unfold skipL
  change Calls _ _ _ _ fun e w' => e = .returned (.bool (l.isPrefixOf s)) ∧ w' = w at hp
  cases hb : l.isPrefixOf s with
  | false =>
    rw [hb] at hp
    go_enter Tryz.func55, Tryz.ntmps55
    go_wp2_with (first | (go_at_call 54; refine hp.mono ?_; rintro e w' ⟨rfl, rfl⟩) | (go_at_call 60; refine (must_bad _ _).mono ?_; rintro e w' ⟨rfl, rfl⟩))
    exact ⟨rfl, rfl, Kp.refl _ _⟩
  | true =>
    rw [hb] at hp
    have hle : l.length ≤ s.length := (List.isPrefixOf_iff_prefix.1 hb).length_le
    go_enter Tryz.func55, Tryz.ntmps55
    go_wp2_with (first | (go_at_call 54; refine hp.mono ?_; rintro e w' ⟨rfl, rfl⟩) | (go_at_call 60; refine (must_ok _ _).mono ?_; rintro e w' ⟨rfl, rfl⟩))
    go_end0
    exact ⟨rfl, rd_put hA (by rw [ext_l, List.take_of_length_le (by rw [List.length_drop]; omega)])⟩
end Go.Proofs.YtpaopeiegaijiaaGreatDoor
