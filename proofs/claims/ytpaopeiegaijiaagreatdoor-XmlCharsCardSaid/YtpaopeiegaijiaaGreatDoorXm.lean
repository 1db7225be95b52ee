import Derived.Test.YtpaopeiegaijiaaGreatDoorXd
import Derived.Maps.Own
import Derived.Maps.OwnSet
import Derived.Maps.Keyed
import Derived.Maps.Ext
import Derived.Maps.RangeWalk
/- The reader's maps: prefixes and their spaces. -/
namespace Go.Proofs.YtpaopeiegaijiaaGreatDoor
open Go.RowKit Go.Shelf Go.Lib Go.Joins Go.Maps Go.Proofs.YtpaopeiegaijiaaGreatDoorW.PrintWords
set_option linter.unusedVariables false
set_option linter.unusedSimpArgs false
noncomputable abbrev SP : Value → Option (DataW Unit × List MemPlace) := plainElem Tryz.prog 22
theorem KS : Keyed Tryz.prog 9 := string_keyed Tryz.underlying9
theorem key_str (k : List UInt8) (h : k.length ≤ 1000000) : keyOf Tryz.prog 9 (strV k) = some (Lit.string k) := by
  have : (⟨k.toArray⟩ : ByteArray).size ≤ maxLen := by rw [sz_l]; unfold maxLen; omega
  simp [keyOf, mapKey, Tryz.underlying9]
  try omega
theorem sp_int (z : Int) (h : (Lit.int .i64 z).wf = true) : SP (.int .i64 z) = some (.lit (.int .i64 z), []) := plainElem_int Tryz.underlying22 h
theorem sp_inv {v : Value} {z : Int} {ps : List MemPlace} (h : SP v = some (.lit (.int .i64 z), ps)) : v = .int .i64 z := by
  obtain ⟨c, rfl, h2, _⟩ := plainElem_int_inv Tryz.underlying22 h
  have h3 := congrArg Prod.fst h2
  simp only [DataW.lit.injEq, Lit.int.injEq, true_and] at h3
  rw [h3]
/-- A map of prefixes, as a function. -/
def Sm (b n : Nat) (M : List UInt8 → Option Int) (w : World) : Prop :=
  ∃ D : DataW Unit, w.ownsMap Tryz.prog 9 SP b n D ∧ (∀ k, Maps.has D (.string k) = (M k).isSome) ∧ (∀ k z, D.atKey (.string k) (.lit (.int .i64 z)) = .lit (.int .i64 ((M k).getD z))) ∧ ∀ k z, M k = some z → (Lit.int .i64 z).wf = true ∧ k.length ≤ 1000000
theorem sm_made (w : World) : Sm w.heap.size 0 (fun _ => none) (w.alloc (.map #[] 0)) :=
  ⟨.map [], World.ownsMap_made _ _ _ _, fun _ => rfl, fun _ _ => rfl, fun _ _ h => by cases h⟩
theorem Sm.kept {b n : Nat} {M : List UInt8 → Option Int} {w w' : World} (h : Sm b n M w) (hk : w'.heap[b]? = w.heap[b]?) : Sm b n M w' := by
  obtain ⟨D, ⟨es, clock, hb, hF⟩, h2⟩ := h
  exact ⟨D, ⟨es, clock, hk.trans hb, hF⟩, h2⟩
theorem Sm.lt {b n : Nat} {M : List UInt8 → Option Int} {w : World} (h : Sm b n M w) : b < w.heap.size := by
  obtain ⟨D, h1, _⟩ := h
  exact h1.lt
theorem Sm.noOwn {b n q : Nat} {M : List UInt8 → Option Int} {w : World} {B : Nat} {s : ByteArray} {ps : List Pc} {t : List UInt8} {v p u : Value} (h : Sm b n M w) (hA : RdAt B q s ps t v p u w) : ¬ ownOf q w b := by
  obtain ⟨D, ⟨es, clock, hb, _⟩, _⟩ := h
  intro ho
  rcases (hA.owns b).1 ho with rfl | ho | ho
  · rw [hA.blk] at hb; cases hb
  · obtain ⟨_, c, hc⟩ := row_blk hA.own ho
    rw [hc] at hb; cases hb
  · obtain ⟨_, c, hc⟩ := row_blk hA.txt ho
    rw [hc] at hb; cases hb
section
variable {ops : Array Oper} {rest : List Oper} {o : Oper} {a : Act} {Q : Exit → Act → World → Prop}
theorem sm_lookup (w : World) (hg : o.guard = none) (m x : Operand) (hop : o.op = Op.lookup 162 m x true) (b n : Nat) (M : List UInt8 → Option Int) (key : List UInt8)
    (hm : a.eval m = .map (some b)) (hown : Sm b n M w) (hx : a.eval x = strV key) (hk : key.length ≤ 1000000)
    (hK : wpList Tryz.prog ops Q rest (a.put o.dst (.tuple #[.int .i64 ((M key).getD 0), .bool (M key).isSome])) w) :
    wpList Tryz.prog ops Q (o :: rest) a w := by
  obtain ⟨D, h1, h2, h3, h4⟩ := hown
  refine wpList_lookup_own_ok w hg m x 162 hop 9 22 KS Tryz.underlying162 SP (z := .int .i64 0) (Tryz.zeroValue22 _) _ _ (sp_int 0 (by decide)) b n D hm h1 _ _ hx (key_str key hk) fun v ps hv => ?_
  rw [h3] at hv
  rw [sp_inv hv, h2]
  exact hK
theorem sm_update (w : World) (hg : o.guard = none) (m x v : Operand) (hop : o.op = Op.mapUpdate 162 m x v) (b n : Nat) (M : List UInt8 → Option Int) (key : List UInt8) (z : Int)
    (hm : a.eval m = .map (some b)) (hown : Sm b n M w) (hn : n < 1000000) (hx : a.eval x = strV key) (hk : key.length ≤ 1000000) (hv : a.eval v = .int .i64 z) (hz : (Lit.int .i64 z).wf = true)
    (hK : ∀ w', Sm b (n + 1) (fun k => if k = key then some z else M k) w' → w.grownBy w' (some b) → wpList Tryz.prog ops Q rest (a.put o.dst undef) w') :
    wpList Tryz.prog ops Q (o :: rest) a w := by
  obtain ⟨D, h1, h2, h3, h4⟩ := hown
  refine wpList_mapUpdate_own w hg m x v 162 hop 9 22 KS Tryz.underlying162 SP b n D hm h1 (by unfold maxLen; omega) _ _ _ hx hv (key_str key hk) _ _ (sp_int z hz) fun w' h5 h6 => hK w' ?_ h6
  refine ⟨_, h5, fun k => ?_, fun k y => ?_, fun k y hy => ?_⟩
  · dsimp only
    by_cases e : k = key
    · subst e
      rw [if_pos rfl, has_put_same h1.isMap (show WideAt.IsKeyLit (Lit.string _) from trivial)]; rfl
    · rw [if_neg e, has_put_other (fun h => e (by injection h)), h2]
  · dsimp only
    by_cases e : k = key
    · subst e
      rw [if_pos rfl, atKey_put_same h1.isMap (show WideAt.IsKeyLit (Lit.string _) from trivial)]; rfl
    · rw [if_neg e, atKey_put_other (fun h => e (by injection h)), h3]
  · dsimp only at hy
    by_cases e : k = key
    · subst e
      rw [if_pos rfl] at hy
      cases hy
      exact ⟨hz, hk⟩
    · rw [if_neg e] at hy
      exact h4 k y hy
/-- A range over a map of prefixes is under way: left: what is still to come. -/
def Rg (b r n : Nat) (M : List UInt8 → Option Int) (left : List UInt8 → Bool) (cnt : Nat) (w : World) : Prop :=
  ∃ (D : DataW Unit) (lf : Lit → Bool), w.ranges Tryz.prog 9 SP b r n D lf cnt ∧ (∀ k, lf (.string k) = left k) ∧ (∀ k, Maps.has D (.string k) = (M k).isSome) ∧ (∀ k z, D.atKey (.string k) (.lit (.int .i64 z)) = .lit (.int .i64 ((M k).getD z))) ∧ ∀ k z, M k = some z → (Lit.int .i64 z).wf = true ∧ k.length ≤ 1000000
theorem keyOf_str_inv {v : Value} {kl : Lit} (h : keyOf Tryz.prog 9 v = some kl) : ∃ s : ByteArray, v = .string s ∧ kl = .string s.data.toList ∧ s.size ≤ maxLen := by
  unfold keyOf mapKey at h
  simp only [Tryz.underlying9] at h
  cases v <;> simp at h
  exact ⟨_, rfl, h.2.symm, h.1⟩
theorem sm_range (w : World) (hg : o.guard = none) (m : Operand) (hop : o.op = Op.range 162 m) (b n : Nat) (M : List UInt8 → Option Int) (hm : a.eval m = .map (some b)) (hown : Sm b n M w)
    (hK : ∀ w' cnt, Rg b w.heap.size n M (fun k => (M k).isSome) cnt w' → cnt ≤ n → w.grownBy w' none → w'.heap.size = w.heap.size + 1 → wpList Tryz.prog ops Q rest (a.put o.dst (.pointer (some ⟨w.heap.size, 0, none⟩))) w') :
    wpList Tryz.prog ops Q (o :: rest) a w := by
  obtain ⟨D, h1, h2, h3, h4⟩ := hown
  refine wpList_range_own w hg m 162 hop 9 22 KS Tryz.underlying162 SP b n D hm h1 fun w' h5 h6 h7 => hK w' _ ⟨D, _, h5, fun k => h2 k, h2, h3, h4⟩ h1.size_le h6 h7
set_option maxRecDepth 100000 in
theorem sm_next (w : World) (hg : o.guard = none) (it : Operand) (hop : o.op = Op.next it false) (b r n : Nat) (M : List UInt8 → Option Int) (left : List UInt8 → Bool) (cnt : Nat) (hit : a.eval it = .pointer (some ⟨r, 0, none⟩)) (h : Rg b r n M left cnt w)
    (hDone : (∀ k, left k = false) → wpList Tryz.prog ops Q rest (a.put o.dst (.tuple #[.bool false])) w)
    (hMore : ∀ (x : List UInt8) (c : Int) (w' : World) (cnt' : Nat), x.length ≤ 1000000 → M x = some c → left x = true → Rg b r n M (fun k => left k && !decide (k = x)) cnt' w' → cnt' < cnt →
      w.grownBy w' (some r) → w'.heap.size = w.heap.size → (Instr.entry (.pointer (some ⟨r, 0, none⟩))).run Tryz.prog w' = .ok (.tuple #[strV x, .int .i64 c]) w' → wpList Tryz.prog ops Q rest (a.put o.dst (.tuple #[.bool true, strV x, .int .i64 c])) w') :
    wpList Tryz.prog ops Q (o :: rest) a w := by
  obtain ⟨D, lf, h1, h2, h3, h4, h5⟩ := h
  refine wpList_next_ranges w hg it hop 9 KS SP Value.string (Value.int .i64) (fun key kl hkey => by obtain ⟨x, rfl, _⟩ := keyOf_str_inv hkey; exact ⟨x, rfl⟩) (fun v y hv => by obtain ⟨c, rfl, _⟩ := plainElem_int_inv Tryz.underlying22 hv; exact ⟨c, rfl⟩)
    b r n D lf cnt hit h1 (fun _ hl => hDone fun k => by rw [← h2]; exact hl _) fun x c kl y w' cnt' hkey hlk hv hat hrg hlt hgr hsz hen => ?_
  obtain ⟨x', ex, rfl, hx⟩ := keyOf_str_inv hkey
  obtain rfl : x = x' := by injection ex
  obtain ⟨c', ec, rfl, hwc⟩ := plainElem_int_inv Tryz.underlying22 hv
  obtain rfl : c = c' := by injection ec
  have hxv : Value.string x = strV x.data.toList := by rw [strV, Lib.mk_data]
  rw [hxv] at hen ⊢
  have hM : M x.data.toList = some c := by
    have a0 := (h4 x.data.toList 0).symm.trans (hat _)
    have a1 := (h4 x.data.toList 1).symm.trans (hat _)
    simp only [DataW.lit.injEq, Lit.int.injEq, true_and] at a0 a1
    cases hm : M x.data.toList with
    | none => rw [hm] at a0 a1; simp at a0 a1; omega
    | some z => rw [hm] at a0; simp at a0; rw [a0]
  refine hMore x.data.toList c w' cnt' (h5 _ _ hM).2 hM (by rw [← h2]; exact hlk) ⟨D, _, hrg, fun k => ?_, h3, h4, h5⟩ hlt hgr hsz hen
  rw [h2]
  congr 2
  by_cases e : k = x.data.toList
  · subst e
    simp [Lit.sameKey]
  · rw [decide_eq_false e]
    exact sameKey_ne fun h => e (by injection h)
end
end Go.Proofs.YtpaopeiegaijiaaGreatDoor
