/- Arguments of whatever type, read as a kind's values, with what the sizes of the reading say of them. -/
import Derived.Test.YtipfekjmcddelaaGreatDoorTb
import Derived.Test.YtipfekjmcddelaaGreatDoorRows
import Derived.ProofKit
import Derived.OpenShut
import Derived.SliceStrings
import Derived.SizedLaws
import Derived.Deep.Slices
import Derived.Lib.SmallJoins
namespace Go.Proofs.YtipfekjmcddelaaGreatDoor.Rz
open Go.ChangeShapes Go.WideShapes Go.ChangeAt Go.RowKit Go.Joins Go.Deep
open Go.Proofs.YtipfekjmcddelaaGreatDoorW.zgo
set_option linter.unusedVariables false
section
variable {H : Type} {en : TypeId × Value → H} {P : Program} {w : World} {base : Nat} {spare : Nat → Bool} {held : Bool}
/-- Every value of type t that is read is one of kind k, of which Ok holds, where all sizes of the reading are within reach. -/
structure Rdz {α : Type} (en : TypeId × Value → H) (P : Program) (w : World) (base : Nat) (spare : Nat → Bool) (held : Bool) (k : Kd α) (t : TypeId) (Ok : α → Prop) : Prop where
  size : k.sz = P.cellsOf t
  read : ∀ (fuel : Nat) (cs : List Value) (x : DataW H × List MemPlace), DataW.trod en P w base spare held fuel t cs = some x → (∀ n ∈ x.1.weights P t, n ≤ reachBytes) → ∃ v, k.K w v cs ∧ Ok v
def And2 {α β : Type} (A : α → Prop) (B : β → Prop) : α × β → Prop := fun p => A p.1 ∧ B p.2
theorem Rdz.int {k : IntKind} {t : TypeId} (ht : P.underlying t = some (.int k)) (hc : P.cellsOf t = 1) : Rdz en P w base spare held (Kd.int k) t (fun n => (Lit.int k n).wf = true) := by
  refine ⟨hc.symm, fun fuel cs x h _ => ?_⟩
  obtain ⟨n, rfl, rfl, hw⟩ := DataW.trod_int ht h
  exact ⟨n, rfl, hw⟩
theorem Rdz.bool {t : TypeId} (ht : P.underlying t = some .bool) (hc : P.cellsOf t = 1) : Rdz en P w base spare held Kd.bool t (fun _ => True) := by
  refine ⟨hc.symm, fun fuel cs x h _ => ?_⟩
  obtain ⟨n, rfl, rfl⟩ := DataW.trod_bool ht h
  exact ⟨n, rfl, trivial⟩
theorem Rdz.string {t : TypeId} (ht : P.underlying t = some .string) (hc : P.cellsOf t = 1) : Rdz en P w base spare held Kd.string t (fun s => s.size ≤ 140737488351232) := by
  refine ⟨hc.symm, fun fuel cs x h hz => ?_⟩
  obtain ⟨s, rfl, rfl, hm⟩ := DataW.trod_string ht h
  refine ⟨s, rfl, ?_⟩
  have := hz s.data.toList.length (by simp [DataW.weights])
  rw [Array.length_toList] at this
  exact this
theorem weights_elem {e : TypeId} {D : Nat → DataW H} {n m : Nat} : ∀ (l : List Nat) (i : Nat), i ∈ l → m ∈ (D i).weights P e → m ∈ DataW.weightsAll P e (l.map D)
  | [], i, hi, _ => by cases hi
  | a :: l, i, hi, hm => by
    rw [List.map_cons, DataW.weightsAll, List.mem_append]
    rcases List.mem_cons.1 hi with rfl | hi
    · exact .inl hm
    · exact .inr (weights_elem (n := n) l i hi hm)
theorem Rdz.slice {α : Type} {k : Kd α} {t e : TypeId} {Ok : α → Prop} {B : Nat} (ht : P.underlying t = some (.slice e)) (hc : P.cellsOf t = 1) (hB : P.bytesOf e = B) (he : Rdz en P w base spare held k e Ok) :
    Rdz en P w base spare held (Kd.slice e k) t (fun l => l.length * B ≤ 140737488351232 ∧ ∀ a ∈ l, Ok a) := by
  refine ⟨hc.symm, fun fuel cs x h hz => ?_⟩
  rcases open_slice ht h with ⟨rfl, rfl⟩ | ⟨a, len, cap, m, n, D, Pl, rfl, _, hl, hm, hmm, rfl, hx⟩
  · exact ⟨[], ⟨none, 0, rfl, Nat.le_refl _, Kd.zfl _ _⟩, by simp⟩
  · have hlm : len ≤ m := by rw [hmm]; split <;> omega
    by_cases h0 : len = 0
    · subst h0
      exact ⟨[], ⟨some a, cap, rfl, Nat.zero_le _, ⟨rfl, Nat.zero_le _, fun h => absurd h (Nat.lt_irrefl 0)⟩⟩, by simp⟩
    · have each : ∀ i, i < len → ∃ v : α, (∃ cs', w.cells? base (a.add (i * P.cellsOf e)) (P.cellsOf e) = some cs' ∧ k.K w v cs') ∧ Ok v := fun i hi => by
        obtain ⟨cs', h1, h2⟩ := hx i (by omega)
        obtain ⟨v, h3, h4⟩ := he.read _ _ _ h2 (fun q hq => hz q (by
          simp only [DataW.weights, ht]
          exact List.mem_cons_of_mem _ (List.mem_append_left _ (weights_elem (n := 0) (List.range len) i (List.mem_range.2 hi) hq))))
        exact ⟨v, ⟨cs', h1, h3⟩, h4⟩
      obtain ⟨v0, _⟩ := each 0 (by omega)
      letI : Inhabited α := ⟨v0⟩
      obtain ⟨f, hf⟩ := choose_lt each
      refine ⟨(List.range len).map f, ⟨some a, cap, by simp, by simpa using hl, ?_⟩, ?_, ?_⟩
      · refine ⟨rfl, ?_, fun _ => ⟨a, rfl, fun j p hj => ?_⟩⟩
        · simp only [List.length_map, List.length_range]
          simp only [maxLen] at hm
          omega
        · obtain ⟨hj1, hj2⟩ := List.getElem?_eq_some_iff.1 hj
          simp only [List.length_map, List.length_range] at hj1
          simp only [List.getElem_map, List.getElem_range] at hj2
          subst hj2
          obtain ⟨⟨cs', h1, h2⟩, _⟩ := hf j hj1
          obtain ⟨_, h3, h4⟩ := World.cells?_some h1
          refine ⟨cs', k.K_len h2, h2, fun i u hu => ?_⟩
          have hi : i < cs'.length := (List.getElem?_eq_some_iff.1 hu).1
          rw [← Go.Deep.add_add, he.size, h4 i (by omega), hu]
      · have h1 := hz _ (by simp only [DataW.weights, ht]; exact List.mem_cons_self)
        rw [hB, List.length_map, List.length_range] at h1
        rw [List.length_map, List.length_range]
        exact Nat.le_trans (Nat.mul_le_mul_right _ (Nat.le_add_right _ _)) h1
      · intro y hy
        obtain ⟨i, hi, rfl⟩ := List.mem_map.1 hy
        exact (hf i (List.mem_range.1 hi)).2
theorem zeb : ∀ (ts : List TypeId) (xs : List (DataW H × List MemPlace)) (i : Nat) (t : TypeId) (x : DataW H × List MemPlace) (m : Nat), ts[i]? = some t → xs[i]? = some x → m ∈ x.1.weights P t → m ∈ DataW.weightsEach P ts (xs.map (·.1))
  | [], _, _, _, _, _, h, _, _ => by simp at h
  | _ :: _, [], _, _, _, _, _, h, _ => by simp at h
  | t0 :: ts, x0 :: xs, 0, t, x, m, h1, h2, hm => by
    simp only [List.getElem?_cons_zero, Option.some.injEq] at h1 h2
    subst h1 h2
    rw [List.map_cons, DataW.weightsEach, List.mem_append]
    exact .inl hm
  | t0 :: ts, x0 :: xs, i + 1, t, x, m, h1, h2, hm => by
    rw [List.map_cons, DataW.weightsEach, List.mem_append]
    exact .inr (zeb ts xs i t x m (by simpa using h1) (by simpa using h2) hm)
/-- The fields from i on, whose cells begin at o. -/
def Frz {α : Type} (en : TypeId × Value → H) (P : Program) (w : World) (base : Nat) (spare : Nat → Bool) (held : Bool) (fs : Array Field) (N : Nat) (k : Kd α) (i o : Nat) (Ok : α → Prop) : Prop :=
  ∀ (cs : List Value) (xs : List (DataW H × List MemPlace)) (n : Nat), cs.length = N → xs.length = fs.size → (∀ m ∈ DataW.weightsEach P (fs.toList.map (·.type)) (xs.map (·.1)), m ≤ reachBytes) →
    (∀ (j : Nat) (f : Field), fs[j]? = some f → DataW.trod en P w base spare held n f.type ((cs.drop f.offset).take (P.cellsOf f.type)) = xs[j]?) →
    ∃ v, k.K w v (cs.drop o) ∧ Ok v
theorem Frz.last {α : Type} {k : Kd α} {fs : Array Field} {N i o : Nat} {Ok : α → Prop} {f : Field} (h : Rdz en P w base spare held k f.type Ok) (hf : fs[i]? = some f) (ho : f.offset = o) (hN : o + P.cellsOf f.type = N) :
    Frz en P w base spare held fs N k i o Ok := by
  intro cs xs n hcs hxs hz hg
  have h1 := hg i f hf
  have hi : i < xs.length := by rw [hxs]; exact (Array.getElem?_eq_some_iff.1 hf).1
  rw [ho, List.take_of_length_le (by rw [List.length_drop]; omega), List.getElem?_eq_getElem hi] at h1
  exact h.read _ _ _ h1 fun m hm => hz m (zeb _ xs i f.type _ m (by rw [List.getElem?_map, Array.getElem?_toList, hf]; rfl) (List.getElem?_eq_getElem hi) hm)
theorem Frz.cons {α β : Type} {k : Kd α} {k' : Kd β} {fs : Array Field} {N i o : Nat} {Ok : α → Prop} {Ok' : β → Prop} {f : Field} (h : Rdz en P w base spare held k f.type Ok) (o' : Nat) (h' : Frz en P w base spare held fs N k' (i + 1) o' Ok') (hf : fs[i]? = some f) (ho : f.offset = o) (hN : o + P.cellsOf f.type = o') :
    Frz en P w base spare held fs N (Kd.pair k k') i o (And2 Ok Ok') := by
  intro cs xs n hcs hxs hz hg
  have h1 := hg i f hf
  have hi : i < xs.length := by rw [hxs]; exact (Array.getElem?_eq_some_iff.1 hf).1
  rw [ho, List.getElem?_eq_getElem hi] at h1
  obtain ⟨v, h2, h3⟩ := h.read _ _ _ h1 fun m hm => hz m (zeb _ xs i f.type _ m (by rw [List.getElem?_map, Array.getElem?_toList, hf]; rfl) (List.getElem?_eq_getElem hi) hm)
  obtain ⟨u, g2, g3⟩ := h' cs xs n hcs hxs hz hg
  refine ⟨(v, u), ⟨(cs.drop o).take (P.cellsOf f.type), cs.drop o', ?_, h2, g2⟩, ⟨h3, g3⟩⟩
  rw [← hN, ← List.drop_drop, List.take_append_drop]
theorem Rdz.struct {α : Type} {k : Kd α} {t : TypeId} {fs : Array Field} {Ok : α → Prop} (ht : P.underlying t = some (.struct fs)) (hc : k.sz = P.cellsOf t) (h : Frz en P w base spare held fs (P.cellsOf t) k 0 0 Ok) :
    Rdz en P w base spare held k t Ok := by
  refine ⟨hc, fun fuel cs x hx hz => ?_⟩
  obtain ⟨xs, n, _, rfl, hcs, hxs, hg⟩ := DataW.trod_struct ht hx
  exact h cs xs n hcs hxs (fun m hm => hz m (by simp only [DataW.weights, ht]; exact hm)) hg
theorem C_iso_map {α β : Type} {k : Kd α} (f : β → α) (g : α → β) (hfg : ∀ a, f (g a) = a) {A : Option Addr} {l : List α} (h : k.C w A l.length l) : (Kd.iso k f).C w A (l.map g).length (l.map g) := by
  obtain ⟨h1, h2, h3⟩ := h
  refine ⟨rfl, by rw [List.length_map]; exact h2, fun hn => ?_⟩
  rw [List.length_map] at hn
  obtain ⟨ad, e, hc⟩ := h3 hn
  refine ⟨ad, e, fun j p hj => ?_⟩
  rw [List.getElem?_map, Option.map_eq_some_iff] at hj
  obtain ⟨a, ha, rfl⟩ := hj
  obtain ⟨c, c1, c2, c3⟩ := hc j a ha
  refine ⟨c, c1, ?_, c3⟩
  show k.K w (f (g a)) c
  rw [hfg]
  exact c2
theorem sized_each {ts : List TypeId} {ds : List (DataW H)} (h : (DataW.weightsEach P ts ds).all (· ≤ reachBytes) = true) {j : Nat} {t : TypeId} {d : DataW H} (ht : ts[j]? = some t) (hd : ds[j]? = some d) : ∀ n ∈ d.weights P t, n ≤ reachBytes := fun n hn => by
  have := List.all_eq_true.1 h _ (DataW.weights_mem_each ht hd n hn)
  simpa using this
end
end Go.Proofs.YtipfekjmcddelaaGreatDoor.Rz
