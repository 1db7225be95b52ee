/- Appending a text to a row of bytes of one's own: where the row lies behind it; the shape of a row. -/
import Derived.Test.YtjhcbggpbfejgaaProg
import Derived.Below
import Derived.Deep.Draws
import Derived.Deep.AppendLies
import Derived.Maps.AppendAt
import Derived.OwnWalk
import Derived.Laws.BytesArg
import Derived.Laws.MakeOwn
import Derived.Laws.OwnMore
import Derived.Deep.OwnRows
import Derived.Tactics
import Derived.Lib.ConvBytes
import Derived.Laws.Slices
import Derived.WalkKit
import Derived.KernelRfl
import Derived.RowKit3
import Derived.Deep.LoopGhost
import Derived.Deep.QuietTactic
import Derived.BigQuiet
import Derived.WideLaws
import Derived.Deep.DeepCutAuto
import Derived.Deep.CutBlock
import Derived.Deep.RegionHeld3
import Derived.Laws.Rows
import Derived.Lib.AppendStr
import Derived.ArgAppend
import Derived.Laws.IdiomCopy
import Derived.OrdersHeld
import Derived.Laws.BitsLemmas
import Derived.RowKit
import Derived.Test.YtjhcbggpbfejgaaVw
namespace Go.Proofs.Ytjhcbggpbfejgaa.Ca
open Go.RowKit Go.Proofs.zjt.zjq Go.Proofs.zjt.zjr Go.Proofs.zjt.zjs
set_option linter.unusedVariables false
set_option linter.unusedSimpArgs false
theorem str_at {P : Program} {w w' : World} {base t u ty e : Nat} {i : TypeInfo} (ht : P.underlying t = some (.slice e)) (hu : P.underlying u = some .string) (hi : P.info? e = some i) (hz : i.zero = some (.int .u8 0))
    (hsize : i.size = 1) (hby : i.bytes = 1) {v v' : Value} {n : Nat} {xs : List Value} (hown : w.ownsRow base e 1 v n xs) (s : ByteArray) (hb : n + s.size ≤ 140737488355328)
    (hr : (Builtin.append_ #[t, u] ty #[v, .string s]).run P w = .ok v' w') : v'.ownBlock = v.ownBlock ∨ ∃ b, v'.ownBlock = some b ∧ w.heap.size ≤ b := by
  rcases hown.2 with ⟨rfl, rfl⟩ | ⟨g, cap, cur, rfl, hg, hh, hn, hc, hs, hx⟩
  · obtain ⟨v2, w2, hr2, ho2, _, _⟩ := Lib.run_append_own_string (P := P) w w.heap.size t u ty e i ht hu hi hz hsize hby (.slice none 0 0) 0 [] (World.ownsRow_nil _ _ _ _) s (by simp only [maxLen]; omega) (by omega) (Nat.le_refl _)
    rw [hr2] at hr
    injection hr with hr _
    subst hr
    rcases ho2.2 with ⟨rfl, _⟩ | ⟨g, cap, cur, rfl, hg, _⟩
    · exact .inl rfl
    · exact .inr ⟨g, rfl, hg⟩
  · have hs' : cur.size = cap := by omega
    by_cases hroom : n + s.size ≤ cap
    · rw [Lib.run_append_room_string (P := P) w t u ty e i ht hu hi hsize g n cap cur hh s hroom (by omega)] at hr
      injection hr with hr _
      subst hr
      exact .inl rfl
    · have hcells : ∀ j v, xs[j]? = some v → w.cell? ((⟨g, 0, none⟩ : Addr).add j) = some v := World.ownsRow.cells ⟨hown.1, .inr ⟨g, cap, cur, rfl, hg, hh, hn, hc, hs, hx⟩⟩ rfl
      have hnx : Builtin.nextslicecap (n + s.size) cap * i.bytes ≤ 281474976710656 := by
        rw [hby]
        have := nextslicecap_le (show cap < n + s.size by omega)
        omega
      rw [Lib.run_append_grow_string (P := P) w t u ty e i (.int .u8 0) ht hu hi hz ⟨g, 0, none⟩ n cap xs (by rw [hown.1, hsize]) hcells s (by omega) (by simp only [maxLen] at hc; omega) hnx] at hr
      injection hr with hr _
      subst hr
      exact .inr ⟨_, rfl, Nat.le_refl _⟩
section
variable {P : Program} {ops : Array Oper} {rest : List Oper} {o : Oper} {a : Act} {Q : Exit → Act → World → Prop}
theorem zhn {w0 W : World} (base : Nat) (hgd : o.guard = none) (s x : Operand) (t u e : TypeId)
    (ho : o.op = .call { callee := .builtin .append, args := #[s, x], argTypes := #[t, u] })
    (ht : P.underlying t = some (.slice e)) (hu : P.underlying u = some .string) (hinfo : (P.info? e).map (fun i => (i.zero, i.size, i.bytes)) = some (some (.int .u8 0), 1, 1))
    (v : Value) (xs : List Int) (y : ByteArray) (ok : Nat → Prop) (hs : a.eval s = v) (hx : a.eval x = .string y)
    (HO : Kd.R (Kd.int .u8) e W base ok v xs) (hfresh : ∀ k, W.heap.size ≤ k → ok k) (HB : Below base w0 W) (hbase : base ≤ W.heap.size) (hl : xs.length + y.size ≤ 140737488355328)
    (h : ∀ v1 w1, Kd.R (Kd.int .u8) e w1 base ok v1 (xs ++ bytesOf y) → Below base w0 w1 → W.grownBy w1 v.ownBlock → wpList P ops Q rest (a.put o.dst v1) w1) :
    wpList P ops Q (o :: rest) a W := by
  obtain ⟨i0, hi, hzz⟩ := Option.map_eq_some_iff.1 hinfo
  simp only [Prod.mk.injEq] at hzz
  obtain ⟨hz0, hz1, hz2⟩ := hzz
  have hown := Kd.zeh HO
  obtain ⟨v1, w1, hr, hown1, hg, _⟩ := Lib.run_append_own_string (P := P) W base t u o.type e i0 ht hu hi hz0 hz1 hz2 v xs.length _ hown y (by simp only [maxLen]; omega) hl hbase
  have hat := str_at ht hu hi hz0 hz1 hz2 hown y hl hr
  have hc : encs (Value.int .u8) (xs ++ bytesOf y) = encs (Value.int .u8) xs ++ Lib.strCells y := by
    simp [encs, bytesOf, Lib.strCells]
  refine wpList_plain hgd fun K hK => ?_
  unfold Oper.wp execOp
  simp only [ho, resolve, invoke, builtin, Sem.run_bind, Sem.run_pure, Result.andThen_ok, List.map_toArray, List.map_cons, List.map_nil, hs, hx, hr]
  refine hK _ _ (h v1 w1 ?_ (HB.grown hg hbase (own_base hown)) hg)
  refine Kd.zey (h1 := fun _ => rfl) (by rw [List.length_append, bytesOf_length, hc]; exact hown1) fun k hk => ?_
  rcases hat with hat | ⟨b, hb, hle⟩
  · exact HO.1 k (hat ▸ hk)
  · rw [hb] at hk
    injection hk with hk
    exact hfresh k (hk ▸ hle)
end
section
variable {P : Program} {ops : Array Oper} {o : Oper} {a : Act} {Q : Exit → Act → World → Prop} {Kc : Act → World → Prop} {E : Prop}
/-- One byte appended, in a region that draws its order. -/
theorem zgf {w0 : World} (W : World) (base : Nat) (hg : o.guard = none) (s x : Operand) (t e : TypeId)
    (ho : o.op = .call { callee := .builtin .append, args := #[s, x], argTypes := #[t, t] })
    (ht : P.underlying t = some (.slice e)) (hinfo : (P.info? e).map (fun i => (i.zero, i.size, i.bytes)) = some (some (.int .u8 0), 1, 1))
    (v : Value) (xs : List Int) (p : Int) (ok : Nat → Prop) (hs : a.eval s = v) (hx : a.eval x = .slice (some ⟨W.heap.size, 0, none⟩) 1 1) (hfresh : ∀ k, W.heap.size ≤ k → ok k)
    (HO : Kd.R (Kd.int .u8) e W base ok v xs) (HB : Below base w0 W) (hbase : base ≤ W.heap.size) (hl : xs.length + 1 ≤ 140737488355328)
    (h : ∀ v1 w1, Kd.R (Kd.int .u8) e w1 base ok v1 (xs ++ [p]) → Below base w0 w1 → W.grownBy w1 v.ownBlock → Kc (a.put o.dst v1) w1) :
    if Region.wanted o (yielded ops a.tmps) = true then Oper.wp P o a (W.alloc (.cells #[.int .u8 p] e)).drew Kc Q else E := by
  have hw : Region.wanted o (yielded ops a.tmps) = true := by simp [Region.wanted, hg]
  rw [if_pos hw]
  have := Kd.R_append_step (P := P) (ops := ops) (o := o) (a := a) (Q := Q) (Kc := Kc) (Kd.int .u8) (w0 := w0) (W := W.drew) base hw s x t e (.int .u8 0) 1 ho ht hinfo rfl (by decide) (by omega) v xs p [.int .u8 p] ok (fun _ => False) hs hx rfl (fun _ hk => hk.elim) hfresh HO ⟨HB.os, HB.tape, HB.output, HB.size, HB.block⟩ hbase (by omega) (fun v1 w1 ho1 hb1 hg1 _ => h v1 w1 ho1 hb1 ⟨hg1.os, hg1.tape, hg1.output, hg1.size, hg1.block⟩)
  rw [if_pos hw] at this
  exact this
end
section
variable {P : Program} {ops : Array Oper} {rest : List Oper} {o : Oper} {a : Act} {Q : Exit → Act → World → Prop}
/-- A whole struct stored into its block, as one step. -/
theorem zbq {W : World} (hN : o.dst = none) (hgd : o.guard = none) (t : TypeId) (p x : Operand) (ho : o.op = .store t p x) {g e : Nat} {old cs : Array Value} (haddr : a.eval p = .pointer (some ⟨g, 0, none⟩)) (hx : a.eval x = .agg cs)
    (hb : W.heap[g]? = some (.cells old e (0, 0))) (hs : old.size = cs.size) (ht : (P.info? t).map (·.size) = some cs.size) (h1 : ∀ q ∈ cs.toList, q.oneCell' = true)
    (h : ∀ w1, w1.heap[g]? = some (.cells cs e (0, 0)) → W.grownBy w1 (some g) → wpList P ops Q rest a w1) : wpList P ops Q (o :: rest) a W := by
  have hl : cs.toList.length = cs.size := Array.length_toList
  have hrun : (Instr.storeAt t (.pointer (some ⟨g, 0, none⟩)) (.agg cs)).run P W = .ok () (W.setCells g 0 cs.toList) :=
    run_store_run t (.agg cs) cs.toList hb rfl (by rw [ht, hl]) (by omega) h1
  obtain ⟨cur', h3, h4, h5⟩ := zga (g := g) cs.toList 0 W old hb (by omega)
  obtain ⟨s1, s2, s3, s4⟩ := zfp g cs.toList 0 W
  refine wpList_plain hgd fun K hK => ?_
  unfold Oper.wp execOp
  simp only [ho, haddr, hx, Sem.run_bind, Sem.run_pure, Result.andThen_ok, hrun]
  show K (a.put o.dst undef) _
  rw [hN]
  refine hK _ _ (h _ ?_ ⟨s1, s2, s3, by rw [s4]; exact Nat.le_refl _, fun k _ hk => zgb _ _ k (fun he => hk (by rw [he]))⟩)
  rw [h3]
  have : cur' = cs := by
    apply Array.ext'
    rw [h5, List.take_zero, List.nil_append, Nat.zero_add, hl, List.drop_eq_nil_of_le (by rw [Array.length_toList]; omega), List.append_nil]
  rw [this]
end
section
variable {P : Program} {ops : Array Oper} {rest : List Oper} {o : Oper} {a : Act} {Q : Exit → Act → World → Prop}
/-- A struct stored into a part of a block, as one step. -/
theorem store_seg {W : World} (hN : o.dst = none) (hgd : o.guard = none) (t : TypeId) (p x : Operand) (ho : o.op = .store t p x) {g e off : Nat} {old cs new : Array Value} (haddr : a.eval p = .pointer (some ⟨g, off, none⟩)) (hx : a.eval x = .agg cs)
    (hb : W.heap[g]? = some (.cells old e (0, 0))) (hs : off + cs.size ≤ old.size) (ht : (P.info? t).map (·.size) = some cs.size) (h1 : ∀ q ∈ cs.toList, q.oneCell' = true) (hnew : new.toList = old.toList.take off ++ cs.toList ++ old.toList.drop (off + cs.size))
    (h : ∀ w1, w1.heap[g]? = some (.cells new e (0, 0)) → W.grownBy w1 (some g) → wpList P ops Q rest a w1) : wpList P ops Q (o :: rest) a W := by
  have hl : cs.toList.length = cs.size := Array.length_toList
  have hrun : (Instr.storeAt t (.pointer (some ⟨g, off, none⟩)) (.agg cs)).run P W = .ok () (W.setCells g off cs.toList) :=
    run_store_run t (.agg cs) cs.toList hb rfl (by rw [ht, hl]) (by omega) h1
  obtain ⟨cur', h3, h4, h5⟩ := zga (g := g) cs.toList off W old hb (by omega)
  obtain ⟨s1, s2, s3, s4⟩ := zfp g cs.toList off W
  refine wpList_plain hgd fun K hK => ?_
  unfold Oper.wp execOp
  simp only [ho, haddr, hx, Sem.run_bind, Sem.run_pure, Result.andThen_ok, hrun]
  show K (a.put o.dst undef) _
  rw [hN]
  refine hK _ _ (h _ ?_ ⟨s1, s2, s3, by rw [s4]; exact Nat.le_refl _, fun k _ hk => zgb _ _ k (fun he => hk (by rw [he]))⟩)
  rw [h3]
  have : cur' = new := by
    apply Array.ext'
    rw [h5, hnew, hl]
  rw [this]
end
section
variable {P : Program} {ops : Array Oper} {rest : List Oper} {o : Oper} {a : Act} {Q : Exit → Act → World → Prop}
end
end Go.Proofs.Ytjhcbggpbfejgaa.Ca
