/- Arguments of whatever type, read as a kind's values: whole numbers, bools, texts, slices, structs; with what the argument's bulk says of them. -/
import Derived.Test.YtpaopeiegaijiaaGreatDoorBulk
import Derived.Test.YtpaopeiegaijiaaGreatDoorVw
import Derived.ProofKit
import Derived.OpenShut
import Derived.SliceStrings
import Derived.Deep.Slices
import Derived.Lib.SmallJoins
namespace Go.Proofs.YtpaopeiegaijiaaGreatDoor.Rg
open Go.ChangeShapes Go.WideShapes Go.ChangeAt Go.RowKit Go.Joins Go.Deep
open Go.Proofs.YtpaopeiegaijiaaGreatDoorW.PrintWords
set_option linter.unusedVariables false

section
variable {H : Type} {en : TypeId × Value → H} {P : Program} {w : World} {base : Nat} {spare : Nat → Bool} {held : Bool}
/-- Every value of type t that is read is one of kind k, of which Ok holds, and of size at most its bulk. -/
structure Rdg {α : Type} (en : TypeId × Value → H) (P : Program) (w : World) (base : Nat) (spare : Nat → Bool) (held : Bool) (k : Kd α) (t : TypeId) (Ok : α → Prop) (sz : α → Nat) : Prop where
  size : k.sz = P.cellsOf t
  read : ∀ (fuel : Nat) (cs : List Value) (x : DataW H × List MemPlace), DataW.trod en P w base spare held fuel t cs = some x → ∃ v, k.K w v cs ∧ Ok v ∧ sz v ≤ Rows.uptoBulk x.1

def And2 {α β : Type} (A : α → Prop) (B : β → Prop) : α × β → Prop := fun p => A p.1 ∧ B p.2
def Sum2 {α β : Type} (A : α → Nat) (B : β → Nat) : α × β → Nat := fun p => A p.1 + B p.2
def IntOk (k : IntKind) (n : Int) : Prop := (Lit.int k n).wf = true
theorem Rdg.int {k : IntKind} {t : TypeId} (ht : P.underlying t = some (.int k)) (hc : P.cellsOf t = 1) : Rdg en P w base spare held (Kd.int k) t (IntOk k) (fun _ => 1) := by
  refine ⟨hc.symm, fun fuel cs x h => ?_⟩
  obtain ⟨n, rfl, rfl, hw⟩ := DataW.trod_int ht h
  exact ⟨n, rfl, hw, Nat.le_refl _⟩
theorem Rdg.bool {t : TypeId} (ht : P.underlying t = some .bool) (hc : P.cellsOf t = 1) : Rdg en P w base spare held Kd.bool t (fun _ => True) (fun _ => 1) := by
  refine ⟨hc.symm, fun fuel cs x h => ?_⟩
  obtain ⟨n, rfl, rfl⟩ := DataW.trod_bool ht h
  exact ⟨n, rfl, trivial, Nat.le_refl _⟩
theorem Rdg.string {t : TypeId} (ht : P.underlying t = some .string) (hc : P.cellsOf t = 1) : Rdg en P w base spare held Kd.string t (fun _ => True) (fun s => s.size + 1) := by
  refine ⟨hc.symm, fun fuel cs x h => ?_⟩
  obtain ⟨s, rfl, rfl, hm⟩ := DataW.trod_string ht h
  refine ⟨s, rfl, trivial, ?_⟩
  show s.size + 1 ≤ Rows.uptoBulk (DataW.lit (Lit.string s.data.toList))
  rw [bulks.string_eq, Array.length_toList]
  exact Nat.le_refl _

/-- The sum of sizes. -/
def tot {α : Type} (sz : α → Nat) : List α → Nat
  | [] => 0
  | a :: l => sz a + tot sz l
theorem tot_len {α : Type} {sz : α → Nat} (h : ∀ a, 1 ≤ sz a) (l : List α) : l.length ≤ tot sz l := by
  induction l with
  | nil => exact Nat.le_refl _
  | cons a l ih => have := h a; simp only [tot, List.length_cons]; omega
theorem tot_mem {α : Type} {sz : α → Nat} (l : List α) (a : α) (h : a ∈ l) : sz a ≤ tot sz l := by
  induction l with
  | nil => simp at h
  | cons x l ih =>
    rcases List.mem_cons.1 h with rfl | h
    · simp only [tot]; omega
    · have := ih h; simp only [tot]; omega
theorem tot_range {α : Type} {sz : α → Nat} {D : Nat → DataW H} {f : Nat → α} : ∀ (n o : Nat), (∀ i, i < n → sz (f (o + i)) ≤ Rows.uptoBulk (D (o + i))) → tot sz ((List.range n).map fun i => f (o + i)) ≤ Rows.uptoBulkAll ((List.range n).map fun i => D (o + i)) := by
  intro n
  induction n with
  | zero => intro o h; exact Nat.le_refl _
  | succ n ih =>
    intro o h
    rw [List.range_succ_eq_map, List.map_cons, List.map_cons, List.map_map, List.map_map]
    have h0 := h 0 (by omega)
    have h1 := ih (o + 1) (fun i hi => by have := h (i + 1) (by omega); rwa [show o + (i + 1) = o + 1 + i by omega] at this)
    have e1 : ((fun i => f (o + i)) ∘ Nat.succ) = fun i => f (o + 1 + i) := by funext i; simp [Nat.succ_eq_add_one, show o + (i + 1) = o + 1 + i by omega]
    have e2 : ((fun i => D (o + i)) ∘ Nat.succ) = fun i => D (o + 1 + i) := by funext i; simp [Nat.succ_eq_add_one, show o + (i + 1) = o + 1 + i by omega]
    rw [e1, e2]
    simp only [tot, Rows.uptoBulkAll]
    omega
theorem Rdg.slice {α : Type} {k : Kd α} {t e : TypeId} {Ok : α → Prop} {sz : α → Nat} (ht : P.underlying t = some (.slice e)) (hc : P.cellsOf t = 1) (he : Rdg en P w base spare held k e Ok sz) :
    Rdg en P w base spare held (Kd.slice e k) t (fun l => ∀ a ∈ l, Ok a) (fun l => tot sz l + 1) := by
  refine ⟨hc.symm, fun fuel cs x h => ?_⟩
  rcases open_slice ht h with ⟨rfl, rfl⟩ | ⟨a, len, cap, m, n, D, Pl, rfl, _, hl, hm, hmm, rfl, hx⟩
  · exact ⟨[], ⟨none, 0, rfl, Nat.le_refl _, Kd.C_nil _ _⟩, by simp, Nat.le_refl _⟩
  · have hlm : len ≤ m := by rw [hmm]; split <;> omega
    by_cases h0 : len = 0
    · subst h0
      refine ⟨[], ⟨some a, cap, rfl, Nat.zero_le _, ⟨rfl, Nat.zero_le _, fun h => absurd h (Nat.lt_irrefl 0)⟩⟩, by simp, ?_⟩
      simp only [tot, Rows.uptoBulk]
      omega
    · have each : ∀ i, i < len → ∃ v : α, (∃ cs', w.cells? base (a.add (i * P.cellsOf e)) (P.cellsOf e) = some cs' ∧ k.K w v cs') ∧ Ok v ∧ sz v ≤ Rows.uptoBulk (D i) := fun i hi => by
        obtain ⟨cs', h1, h2⟩ := hx i (by omega)
        obtain ⟨v, h3, h4, h5⟩ := he.read _ _ _ h2
        exact ⟨v, ⟨cs', h1, h3⟩, h4, h5⟩
      obtain ⟨v0, _⟩ := each 0 (by omega)
      letI : Inhabited α := ⟨v0⟩
      obtain ⟨f, hf⟩ := choose_lt each
      refine ⟨(List.range len).map f, ⟨some a, cap, by simp, by simpa using hl, ?_⟩, ?_, ?_⟩
      · refine ⟨rfl, ?_, fun _ => ⟨a, rfl, fun j p hj => ?_⟩⟩
        · simp only [List.length_map, List.length_range]
          simp only [maxLen] at hm
          omega
        · obtain ⟨hj1, hj2⟩ := List.getElem?_eq_some_iff.1 hj
          simp only [List.length_map, List.length_range] at hj1
          simp only [List.getElem_map, List.getElem_range] at hj2
          subst hj2
          obtain ⟨⟨cs', h1, h2⟩, _⟩ := hf j hj1
          obtain ⟨_, h3, h4⟩ := World.cells?_some h1
          refine ⟨cs', k.K_len h2, h2, fun i u hu => ?_⟩
          have hi : i < cs'.length := (List.getElem?_eq_some_iff.1 hu).1
          rw [← Go.Deep.add_add, he.size, h4 i (by omega), hu]
      · intro y hy
        obtain ⟨i, hi, rfl⟩ := List.mem_map.1 hy
        exact (hf i (List.mem_range.1 hi)).2.1
      · have := tot_range (H := H) (sz := sz) (D := D) (f := f) len 0 (fun i hi => by rw [Nat.zero_add]; exact (hf i hi).2.2)
        simp only [Nat.zero_add] at this
        have this : tot sz ((List.range len).map f) ≤ Rows.uptoBulkAll ((List.range len).map D) := this
        simp only [Rows.uptoBulk]
        omega

/-- The fields from i on, whose cells begin at o. -/
def Fr {α : Type} (en : TypeId × Value → H) (P : Program) (w : World) (base : Nat) (spare : Nat → Bool) (held : Bool) (fs : Array Field) (N : Nat) (k : Kd α) (i o : Nat) (Ok : α → Prop) (sz : α → Nat) : Prop :=
  ∀ (cs : List Value) (xs : List (DataW H × List MemPlace)) (n : Nat), cs.length = N → xs.length = fs.size →
    (∀ (j : Nat) (f : Field), fs[j]? = some f → DataW.trod en P w base spare held n f.type ((cs.drop f.offset).take (P.cellsOf f.type)) = xs[j]?) →
    ∃ v, k.K w v (cs.drop o) ∧ Ok v ∧ sz v ≤ Rows.uptoBulkAll ((xs.drop i).map (·.1))
theorem Fr.last {α : Type} {k : Kd α} {fs : Array Field} {N i o : Nat} {Ok : α → Prop} {sz : α → Nat} {f : Field} (h : Rdg en P w base spare held k f.type Ok sz) (hf : fs[i]? = some f) (ho : f.offset = o) (hN : o + P.cellsOf f.type = N) :
    Fr en P w base spare held fs N k i o Ok sz := by
  intro cs xs n hcs hxs hg
  have h1 := hg i f hf
  have hi : i < xs.length := by rw [hxs]; exact (Array.getElem?_eq_some_iff.1 hf).1
  rw [ho, List.take_of_length_le (by rw [List.length_drop]; omega), List.getElem?_eq_getElem hi] at h1
  obtain ⟨v, h2, h3, h4⟩ := h.read _ _ _ h1
  refine ⟨v, h2, h3, ?_⟩
  rw [List.drop_eq_getElem_cons hi, List.map_cons, Rows.uptoBulkAll]
  omega
theorem Fr.cons {α β : Type} {k : Kd α} {k' : Kd β} {fs : Array Field} {N i o : Nat} {Ok : α → Prop} {sz : α → Nat} {Ok' : β → Prop} {sz' : β → Nat} {f : Field} (h : Rdg en P w base spare held k f.type Ok sz) (o' : Nat) (h' : Fr en P w base spare held fs N k' (i + 1) o' Ok' sz') (hf : fs[i]? = some f) (ho : f.offset = o) (hN : o + P.cellsOf f.type = o') :
    Fr en P w base spare held fs N (Kd.pair k k') i o (And2 Ok Ok') (Sum2 sz sz') := by
  intro cs xs n hcs hxs hg
  have h1 := hg i f hf
  have hi : i < xs.length := by rw [hxs]; exact (Array.getElem?_eq_some_iff.1 hf).1
  rw [ho, List.getElem?_eq_getElem hi] at h1
  obtain ⟨v, h2, h3, h4⟩ := h.read _ _ _ h1
  obtain ⟨u, g2, g3, g4⟩ := h' cs xs n hcs hxs hg
  refine ⟨(v, u), ⟨(cs.drop o).take (P.cellsOf f.type), cs.drop o', ?_, h2, g2⟩, ⟨h3, g3⟩, ?_⟩
  · rw [← hN, ← List.drop_drop, List.take_append_drop]
  · rw [List.drop_eq_getElem_cons hi, List.map_cons, Rows.uptoBulkAll]
    show sz v + sz' u ≤ _
    omega
theorem Rdg.struct {α : Type} {k : Kd α} {t : TypeId} {fs : Array Field} {Ok : α → Prop} {sz : α → Nat} (ht : P.underlying t = some (.struct fs)) (hc : k.sz = P.cellsOf t) (h : Fr en P w base spare held fs (P.cellsOf t) k 0 0 Ok sz) :
    Rdg en P w base spare held k t Ok (fun v => sz v + 1) := by
  refine ⟨hc, fun fuel cs x hx => ?_⟩
  obtain ⟨xs, n, _, rfl, hcs, hxs, hg⟩ := DataW.trod_struct ht hx
  obtain ⟨v, h1, h2, h3⟩ := h cs xs n hcs hxs hg
  refine ⟨v, h1, h2, ?_⟩
  simp only [List.drop_zero] at h3
  simp only [Rows.uptoBulk]
  omega
theorem Rdg.iso {α β : Type} {k : Kd α} {t : TypeId} {Ok : α → Prop} {sz : α → Nat} (f : β → α) (g : α → β) (hfg : ∀ a, f (g a) = a) (h : Rdg en P w base spare held k t Ok sz) : Rdg en P w base spare held (Kd.iso k f) t (fun b => Ok (f b)) (fun b => sz (f b)) := by
  refine ⟨h.size, fun fuel cs x hx => ?_⟩
  obtain ⟨v, h1, h2, h3⟩ := h.read _ _ _ hx
  refine ⟨g v, ?_, ?_, ?_⟩
  · show k.K w (f (g v)) cs
    rw [hfg]
    exact h1
  · show Ok (f (g v))
    rw [hfg]
    exact h2
  · show sz (f (g v)) ≤ _
    rw [hfg]
    exact h3
theorem C_iso_map {α β : Type} {k : Kd α} (f : β → α) (g : α → β) (hfg : ∀ a, f (g a) = a) {A : Option Addr} {l : List α} (h : k.C w A l.length l) : (Kd.iso k f).C w A (l.map g).length (l.map g) := by
  obtain ⟨h1, h2, h3⟩ := h
  refine ⟨rfl, by rw [List.length_map]; exact h2, fun hn => ?_⟩
  rw [List.length_map] at hn
  obtain ⟨ad, e, hc⟩ := h3 hn
  refine ⟨ad, e, fun j p hj => ?_⟩
  rw [List.getElem?_map, Option.map_eq_some_iff] at hj
  obtain ⟨a, ha, rfl⟩ := hj
  obtain ⟨c, c1, c2, c3⟩ := hc j a ha
  refine ⟨c, c1, ?_, c3⟩
  show k.K w (f (g a)) c
  rw [hfg]
  exact c2
end
end Go.Proofs.YtpaopeiegaijiaaGreatDoor.Rg
