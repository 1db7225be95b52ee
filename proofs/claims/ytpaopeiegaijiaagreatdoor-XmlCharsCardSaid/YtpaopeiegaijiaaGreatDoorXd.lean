import Derived.Test.YtpaopeiegaijiaaGreatDoorXc
import Derived.Shelf.Strings.BuilderX
import Derived.Lib.Builder
import Derived.Lib.AppendStr
import Derived.Lib.UnsafeStr
import Derived.Laws.Externs
import Derived.Laws.Entries
/- The reader's builder (it lies in the reader's own block): its methods; flush. -/
namespace Go.Proofs.YtpaopeiegaijiaaGreatDoor
open Go.RowKit Go.Shelf Go.Lib Go.Joins Go.Proofs.YtpaopeiegaijiaaGreatDoorW.PrintWords
set_option linter.unusedVariables false
set_option linter.unusedSimpArgs false
section
variable {P : Program}
/-- Where a row lies behind an append. -/
def Where (w : World) (v v' : Value) : Prop := v'.ownBlock = v.ownBlock ∨ ∃ b, v'.ownBlock = some b ∧ w.heap.size ≤ b
theorem app_where (w : World) (base : Nat) (t ty e : TypeId) (i : TypeInfo) (z : Value) (size bytes : Nat) (ht : P.underlying t = some (.slice e)) (hi : P.info? e = some i) (hz : i.zero = some z)
    (hsize : i.size = size) (hby : i.bytes = bytes) (hzs : z.cells.size = size) (hsz : 0 < size)
    (v : Value) (n : Nat) (xs : List Value) (hown : w.ownsRow base e size v n xs)
    (a : Addr) (m c : Nat) (news : List Value) (hl : news.length = m * size) (hnews : ∀ j u, news[j]? = some u → w.cell? (a.add j) = some u) (h1 : ∀ u ∈ news, u.oneCell' = true)
    (h63 : n + m ≤ maxLen) (hbytes : (n + m) * bytes ≤ 140737488355328) (hbase : base ≤ w.heap.size) :
    ∃ v' w', (Builtin.append_ #[t, t] ty #[v, .slice (some a) m c]).run P w = .ok v' w' ∧ w'.ownsRow base e size v' (n + m) (xs ++ news) ∧ w.grownBy w' v.ownBlock ∧ Where w v v' := by
  obtain ⟨v', w', hr, h2, h3, h4⟩ := run_append_own (P := P) w base t ty e i z size bytes ht hi hz hsize hby hzs hsz v n xs hown a m c news hl hnews h1 h63 hbytes hbase
  refine ⟨v', w', hr, h2, h3, ?_⟩
  rcases hown.2 with ⟨rfl, rfl⟩ | ⟨g, cap, cur, rfl, hg, hh, hn, hc, hs, hx⟩
  · have hxs : xs = [] := List.eq_nil_of_length_eq_zero (by simpa using hown.1)
    subst hxs
    obtain ⟨v2, w2, hr2, ho2, _, _⟩ := run_append_own (P := P) w w.heap.size t ty e i z size bytes ht hi hz hsize hby hzs hsz (.slice none 0 0) 0 [] (World.ownsRow_nil _ _ _ _) a m c news hl hnews h1 h63 hbytes (Nat.le_refl _)
    rw [hr] at hr2
    injection hr2 with hv _
    subst hv
    rcases ho2.2 with ⟨rfl, _⟩ | ⟨g, cap, cur, rfl, hg, _⟩
    · exact .inl rfl
    · exact .inr ⟨g, rfl, hg⟩
  · subst hsize
    by_cases hroom : n + m ≤ cap
    · have hfit : n * i.size + news.length ≤ cur.size := by rw [hl, hs, ← Nat.add_mul]; exact Nat.mul_le_mul_right _ hroom
      rw [run_append_room (P := P) w t ty e i ht hi g n cap cur hh a m c news hl hnews h1 hroom hfit] at hr
      injection hr with hv _
      subst hv
      exact .inl rfl
    · have holds : ∀ j u, xs[j]? = some u → w.cell? ((⟨g, 0, none⟩ : Addr).add j) = some u := World.ownsRow.cells ⟨hown.1, .inr ⟨g, cap, cur, rfl, hg, hh, hn, hc, hs, hx⟩⟩ rfl
      subst hby
      rw [run_append_grow (P := P) w t ty e i z ht hi hz ⟨g, 0, none⟩ n cap xs hown.1 holds a m c news hl hnews (by omega) (by simp only [maxLen] at h63; omega) (growslice_fits (by omega) hbytes)] at hr
      injection hr with hv _
      subst hv
      exact .inr ⟨_, rfl, Nat.le_refl _⟩
theorem str_where {w w' : World} {base t u ty e : Nat} {i : TypeInfo} (ht : P.underlying t = some (.slice e)) (hu : P.underlying u = some .string) (hi : P.info? e = some i) (hz : i.zero = some (.int .u8 0))
    (hsize : i.size = 1) (hby : i.bytes = 1) {v v' : Value} {n : Nat} {xs : List Value} (hown : w.ownsRow base e 1 v n xs) (s : ByteArray) (hb : n + s.size ≤ 140737488355328)
    (hr : (Builtin.append_ #[t, u] ty #[v, .string s]).run P w = .ok v' w') : Where w v v' := by
  rcases hown.2 with ⟨rfl, rfl⟩ | ⟨g, cap, cur, rfl, hg, hh, hn, hc, hs, hx⟩
  · obtain ⟨v2, w2, hr2, ho2, _, _⟩ := Lib.run_append_own_string (P := P) w w.heap.size t u ty e i ht hu hi hz hsize hby (.slice none 0 0) 0 [] (World.ownsRow_nil _ _ _ _) s (by simp only [maxLen]; omega) (by omega) (Nat.le_refl _)
    rw [hr2] at hr
    injection hr with hr _
    subst hr
    rcases ho2.2 with ⟨rfl, _⟩ | ⟨g, cap, cur, rfl, hg, _⟩
    · exact .inl rfl
    · exact .inr ⟨g, rfl, hg⟩
  · have hs' : cur.size = cap := by omega
    by_cases hroom : n + s.size ≤ cap
    · rw [Lib.run_append_room_string (P := P) w t u ty e i ht hu hi hsize g n cap cur hh s hroom (by omega)] at hr
      injection hr with hr _
      subst hr
      exact .inl rfl
    · have hcells : ∀ j v, xs[j]? = some v → w.cell? ((⟨g, 0, none⟩ : Addr).add j) = some v := World.ownsRow.cells ⟨hown.1, .inr ⟨g, cap, cur, rfl, hg, hh, hn, hc, hs, hx⟩⟩ rfl
      have hnx : Builtin.nextslicecap (n + s.size) cap * i.bytes ≤ 281474976710656 := by
        rw [hby]
        have := nextslicecap_le (show cap < n + s.size by omega)
        omega
      rw [Lib.run_append_grow_string (P := P) w t u ty e i (.int .u8 0) ht hu hi hz ⟨g, 0, none⟩ n cap xs (by rw [hown.1, hsize]) hcells s (by omega) (by simp only [maxLen] at hc; omega) hnx] at hr
      injection hr with hr _
      subst hr
      exact .inr ⟨_, rfl, Nat.le_refl _⟩
variable {ops : Array Oper} {rest : List Oper} {o : Oper} {a : Act} {Q : Exit → Act → World → Prop}
theorem wpList_app (w : World) (hgd : o.guard = none) (s x : Operand) (t : TypeId) (ho : o.op = .call { callee := .builtin .append, args := #[s, x], argTypes := #[t, t] })
    (base : Nat) (e : TypeId) (i : TypeInfo) (z : Value) (size bytes : Nat) (ht : P.underlying t = some (.slice e)) (hi : P.info? e = some i) (hz : i.zero = some z)
    (hsize : i.size = size) (hby : i.bytes = bytes) (hzs : z.cells.size = size) (hsz : 0 < size)
    (v : Value) (n : Nat) (xs : List Value) (hs : a.eval s = v) (hown : w.ownsRow base e size v n xs)
    (ad : Addr) (m c : Nat) (news : List Value) (hx : a.eval x = .slice (some ad) m c) (hl : news.length = m * size) (hnews : ∀ j u, news[j]? = some u → w.cell? (ad.add j) = some u) (h1 : ∀ u ∈ news, u.oneCell' = true)
    (h63 : n + m ≤ maxLen) (hbytes : (n + m) * bytes ≤ 140737488355328) (hbase : base ≤ w.heap.size)
    (h : ∀ v' w', w'.ownsRow base e size v' (n + m) (xs ++ news) → w.grownBy w' v.ownBlock → Where w v v' → wpList P ops Q rest (a.put o.dst v') w') : wpList P ops Q (o :: rest) a w := by
  refine wpList_plain hgd fun K hK => ?_
  obtain ⟨v', w', hr, h2, h3, h4⟩ := app_where (P := P) w base t o.type e i z size bytes ht hi hz hsize hby hzs hsz v n xs hown ad m c news hl hnews h1 h63 hbytes hbase
  unfold Oper.wp execOp
  simp only [ho, resolve, invoke, builtin, Sem.run_bind, Sem.run_pure, Result.andThen_ok, List.map_toArray, List.map_cons, List.map_nil, hs, hx, hr]
  exact hK _ _ (h v' w' h2 h3 h4)
theorem wpList_apps (w : World) (hgd : o.guard = none) (sl x : Operand) (t u : TypeId) (ho : o.op = .call { callee := .builtin .append, args := #[sl, x], argTypes := #[t, u] })
    (base : Nat) (e : TypeId) (i : TypeInfo) (ht : P.underlying t = some (.slice e)) (hu : P.underlying u = some .string) (hi : P.info? e = some i) (hz : i.zero = some (.int .u8 0))
    (hsize : i.size = 1) (hby : i.bytes = 1) (v : Value) (n : Nat) (xs : List Value) (hs : a.eval sl = v) (hown : w.ownsRow base e 1 v n xs) (s : ByteArray) (hx : a.eval x = .string s)
    (hbytes : n + s.size ≤ 140737488355328) (hbase : base ≤ w.heap.size)
    (h : ∀ v' w', w'.ownsRow base e 1 v' (n + s.size) (xs ++ Lib.strCells s) → w.grownBy w' v.ownBlock → Where w v v' → wpList P ops Q rest (a.put o.dst v') w') : wpList P ops Q (o :: rest) a w := by
  refine wpList_plain hgd fun K hK => ?_
  obtain ⟨v', w', hr, h2, h3, h4⟩ := Lib.run_append_own_string (P := P) w base t u o.type e i ht hu hi hz hsize hby v n xs hown s (by simp only [maxLen]; omega) hbytes hbase
  have h5 := str_where ht hu hi hz hsize hby hown s hbytes hr
  unfold Oper.wp execOp
  simp only [ho, resolve, invoke, builtin, Sem.run_bind, Sem.run_pure, Result.andThen_ok, List.map_toArray, List.map_cons, List.map_nil, hs, hx, hr]
  exact hK _ _ (h v' w' h2 h3 h5)
end
theorem row_kept {w w' : World} {B T sz n : Nat} {x : Value} {xs : List Value} (ho : w.ownsRow B T sz x n xs) (hk : ∀ g, x.ownBlock = some g → w'.heap[g]? = w.heap[g]?) : w'.ownsRow B T sz x n xs := by
  obtain ⟨h1, h2⟩ := ho
  refine ⟨h1, ?_⟩
  rcases h2 with h2 | ⟨g, cap, cur, e1, e2, e3, e4⟩
  · exact .inl h2
  · exact .inr ⟨g, cap, cur, e1, e2, (hk g (by rw [e1]; rfl)).trans e3, e4⟩
theorem row_blk {w : World} {B T sz n g : Nat} {x : Value} {xs : List Value} (ho : w.ownsRow B T sz x n xs) (hg : x.ownBlock = some g) : B ≤ g ∧ ∃ cur, w.heap[g]? = some (.cells cur T (0, 0)) := by
  rcases ho.2 with ⟨rfl, _⟩ | ⟨g', cap, cur, rfl, e2, e3, _⟩
  · simp [Value.ownBlock] at hg
  · simp only [Value.ownBlock, Option.some.injEq] at hg
    subst hg
    exact ⟨e2, cur, e3⟩
theorem blk_lt {w : World} {g : Nat} {o : Obj} (h : w.heap[g]? = some o) : g < w.heap.size := by
  rcases Nat.lt_or_ge g w.heap.size with h' | h'
  · exact h'
  · simp [Array.getElem?_eq_none h'] at h
theorem set_other (w : World) {q j k : Nat} (x : Value) (hk : k ≠ q) : (w.setCell ⟨q, j, none⟩ x).heap[k]? = w.heap[k]? := Below.heap_setCell _ _ _ _ (fun e => hk (by simp [e]))
section
variable {B q : Nat} {s : ByteArray} {ps : List Pc} {t : List UInt8} {v p u : Value} {w : World}
theorem RdAt.vu (h : RdAt B q s ps t v p u w) (g : Nat) (hv : v.ownBlock = some g) : u.ownBlock ≠ some g := by
  intro hu
  obtain ⟨_, c1, h1⟩ := row_blk h.own hv
  obtain ⟨_, c2, h2⟩ := row_blk h.txt hu
  rw [h1] at h2
  simp at h2
/-- The builder's buffer is another. -/
theorem RdAt.putU (h : RdAt B q s ps t v p u w) {w2 : World} {u' : Value} {t' : List UInt8} (hg : w.grownBy w2 u.ownBlock) (ho : w2.ownsRow B 5 1 u' t'.length (Lib.byteCells t')) (hw : Where w u u') :
    RdAt B q s ps t' v p u' (w2.setCell ⟨q, 3, none⟩ u') ∧ St q w (w2.setCell ⟨q, 3, none⟩ u') := by
  have hq : w2.heap[q]? = w.heap[q]? := hg.block q h.lt fun e => h.neu e.symm
  have hb2 : w2.heap[q]? = some (.cells #[.string s, v, p, u] 111 (0, 0)) := hq.trans h.blk
  have hb : (w2.setCell ⟨q, 3, none⟩ u').heap[q]? = some (.cells #[.string s, v, p, u'] 111 (0, 0)) := by
    simp [World.setCell, Array.getElem?_modify, hb2]
  have hne : u'.ownBlock ≠ some q := own_ne ho hb2 (by decide)
  have hR : RdAt B q s ps t' v p u' (w2.setCell ⟨q, 3, none⟩ u') := by
    refine ⟨h.low, hb, row_kept h.own fun g hg' => ?_, row_kept ho fun g hg' => set_other _ _ fun e => hne (by rw [hg', e]), h.adr⟩
    obtain ⟨_, c, hc⟩ := row_blk h.own hg'
    rw [set_other _ _ (fun e => h.nev (by rw [hg', e])), hg.block g (blk_lt hc) fun e => h.vu g hg' e.symm]
  refine ⟨hR, ⟨hg.os, hg.tape, hg.output, by simpa [World.setCell] using hg.size, fun k hk hn => ?_⟩, fun k hk h1 => ?_⟩
  · have n1 : k ≠ q := fun e => hn ((h.owns k).2 (.inl e))
    have n2 : u.ownBlock ≠ some k := fun e => hn ((h.owns k).2 (.inr (.inr e)))
    rw [set_other _ _ n1, hg.block k hk fun e => n2 e.symm]
  · refine (h.owns k).2 ?_
    rcases (hR.owns k).1 h1 with h1 | h1 | h1
    · exact .inl h1
    · exact .inr (.inl h1)
    · rcases hw with hw | ⟨b, hw, hle⟩
      · exact .inr (.inr (hw ▸ h1))
      · rw [hw] at h1
        simp only [Option.some.injEq] at h1
        omega
/-- The pieces are others. -/
theorem RdAt.putV (h : RdAt B q s ps t v p u w) {w2 : World} {v' : Value} {ps' : List Pc} (hg : w.grownBy w2 v.ownBlock) (ho : w2.ownsRow B 60 4 v' ps'.length (pcs ps')) (hw : Where w v v') :
    RdAt B q s ps' t v' p u (w2.setCell ⟨q, 1, none⟩ v') ∧ St q w (w2.setCell ⟨q, 1, none⟩ v') := by
  have hq : w2.heap[q]? = w.heap[q]? := hg.block q h.lt fun e => h.nev e.symm
  have hb2 : w2.heap[q]? = some (.cells #[.string s, v, p, u] 111 (0, 0)) := hq.trans h.blk
  have hb : (w2.setCell ⟨q, 1, none⟩ v').heap[q]? = some (.cells #[.string s, v', p, u] 111 (0, 0)) := by
    simp [World.setCell, Array.getElem?_modify, hb2]
  have hne : v'.ownBlock ≠ some q := own_ne ho hb2 (by decide)
  have hR : RdAt B q s ps' t v' p u (w2.setCell ⟨q, 1, none⟩ v') := by
    refine ⟨h.low, hb, row_kept ho fun g hg' => set_other _ _ fun e => hne (by rw [hg', e]), row_kept h.txt fun g hg' => ?_, h.adr⟩
    obtain ⟨_, c, hc⟩ := row_blk h.txt hg'
    rw [set_other _ _ (fun e => h.neu (by rw [hg', e])), hg.block g (blk_lt hc) fun e => h.vu g e.symm hg']
  refine ⟨hR, ⟨hg.os, hg.tape, hg.output, by simpa [World.setCell] using hg.size, fun k hk hn => ?_⟩, fun k hk h1 => ?_⟩
  · have n1 : k ≠ q := fun e => hn ((h.owns k).2 (.inl e))
    have n2 : v.ownBlock ≠ some k := fun e => hn ((h.owns k).2 (.inr (.inl e)))
    rw [set_other _ _ n1, hg.block k hk fun e => n2 e.symm]
  · refine (h.owns k).2 ?_
    rcases (hR.owns k).1 h1 with h1 | h1 | h1
    · exact .inl h1
    · rcases hw with hw | ⟨b, hw, hle⟩
      · exact .inr (.inl (hw ▸ h1))
      · rw [hw] at h1
        simp only [Option.some.injEq] at h1
        omega
    · exact .inr (.inr h1)
/-- The builder's address is another. -/
theorem RdAt.putP (h : RdAt B q s ps t v p u w) (p' : Value) (hp : p' = .pointer none ∨ p' = .pointer (some ⟨q, 2, none⟩)) :
    RdAt B q s ps t v p' u (w.setCell ⟨q, 2, none⟩ p') ∧ St q w (w.setCell ⟨q, 2, none⟩ p') := by
  have hb : (w.setCell ⟨q, 2, none⟩ p').heap[q]? = some (.cells #[.string s, v, p', u] 111 (0, 0)) := by
    simp [World.setCell, Array.getElem?_modify, h.blk]
  have hR : RdAt B q s ps t v p' u (w.setCell ⟨q, 2, none⟩ p') :=
    ⟨h.low, hb, row_kept h.own fun g hg' => set_other _ _ fun e => h.nev (by rw [hg', e]), row_kept h.txt fun g hg' => set_other _ _ fun e => h.neu (by rw [hg', e]), hp⟩
  exact ⟨hR, ⟨rfl, rfl, rfl, by simp [World.setCell], fun k _ hn => set_other _ _ fun e => hn (Or.inl e)⟩, fun k _ h1 => (h.owns k).2 ((hR.owns k).1 h1)⟩
/-- The builder's buffer is let go. -/
theorem RdAt.dropU (h : RdAt B q s ps t v p u w) : RdAt B q s ps [] v p (.slice none 0 0) (w.setCell ⟨q, 3, none⟩ (.slice none 0 0)) ∧ St q w (w.setCell ⟨q, 3, none⟩ (.slice none 0 0)) := by
  have hb : (w.setCell ⟨q, 3, none⟩ (.slice none 0 0)).heap[q]? = some (.cells #[.string s, v, p, .slice none 0 0] 111 (0, 0)) := by
    simp [World.setCell, Array.getElem?_modify, h.blk]
  have hR : RdAt B q s ps [] v p (.slice none 0 0) (w.setCell ⟨q, 3, none⟩ (.slice none 0 0)) :=
    ⟨h.low, hb, row_kept h.own fun g hg' => set_other _ _ fun e => h.nev (by rw [hg', e]), World.ownsRow_nil _ _ _ _, h.adr⟩
  refine ⟨hR, ⟨rfl, rfl, rfl, by simp [World.setCell], fun k _ hn => set_other _ _ fun e => hn (Or.inl e)⟩, fun k _ h1 => (h.owns k).2 ?_⟩
  rcases (hR.owns k).1 h1 with h1 | h1 | h1
  · exact .inl h1
  · exact .inr (.inl h1)
  · simp [Value.ownBlock] at h1
set_option maxHeartbeats 1000000 in
set_option maxRecDepth 100000 in
theorem copyCheck_any (h : RdAt B q s ps t v p u w) :
    Calls Tryz.prog 93 #[.pointer (some ⟨q, 2, none⟩)] w fun e w' => e = .returned (.tuple #[]) ∧ RdAt B q s ps t v (.pointer (some ⟨q, 2, none⟩)) u w' ∧ St q w w' := by
  obtain ⟨j, hj, hjs⟩ := Option.map_eq_some_iff.1 (show (Tryz.prog.info? 95).map (·.size) = some 2 by kernel_rfl)
  have c2 := h.c2
  have f2 := h.fz 2
  rcases h.adr with rfl | rfl
  · go_enter Tryz.func93, Tryz.ntmps93
    go_wp2
    rw [Lib.run_to_unsafe w ⟨q, 2, none⟩ Tryz.underlying92 Tryz.underlying182 hj (by rw [hjs]; decide) h.shape (show 2 < 4 by decide)]
    simp only [Result.andThen]
    rw [Oper.upon_value]
    go_wp2
    rw [run_callFunc_extern Tryz.func129 (by kernel_rfl) (by kernel_rfl) (by kernel_rfl) (e := Extern.AbiNoEscape.same) (by kernel_rfl)]
    rw [Lib.run_noEscape]
    simp only [Result.andThen]
    rw [Oper.upon_value]
    go_wp2
    rw [Lib.run_from_unsafe w ⟨q, 2, none⟩ Tryz.underlying182 Tryz.underlying92 hj h.shape (by kernel_rfl)]
    simp only [Result.andThen]
    rw [Oper.upon_value]
    go_wp2
    go_end0
    exact ⟨rfl, h.putP _ (.inr rfl)⟩
  · go_enter Tryz.func93, Tryz.ntmps93
    go_wp2
    rw [Lib.run_neq_ptr_same w _ Tryz.underlying92 hj]
    go_wp2
    go_end0
    exact ⟨rfl, h, St.refl _ _⟩
theorem byteCells_app (a b : List UInt8) : Lib.byteCells (a ++ b) = Lib.byteCells a ++ Lib.byteCells b := by simp [Lib.byteCells]
theorem byteCells_str (l : List UInt8) : Lib.strCells ⟨l.toArray⟩ = Lib.byteCells l := by simp [Lib.strCells, Lib.byteCells]
set_option maxHeartbeats 2000000 in
set_option maxRecDepth 100000 in
theorem writeByte_any (c : UInt8) (hB : B ≤ w.heap.size) (hlen : t.length + 1 ≤ 140737488355328) (h : RdAt B q s ps t v p u w) :
    Calls Tryz.prog 107 #[.pointer (some ⟨q, 2, none⟩), .int .u8 (c.toNat : Int)] w fun e w' => e = .returned .nilIface ∧ ∃ v p u, RdAt B q s ps (t ++ [c]) v p u w' ∧ St q w w' := by
  obtain ⟨i0, hi, hz⟩ := Option.map_eq_some_iff.1 (show (Tryz.prog.info? 5).map (fun i => (i.zero, i.size, i.bytes)) = some (some (.int .u8 0), 1, 1) by kernel_rfl)
  simp only [Prod.mk.injEq] at hz
  obtain ⟨hz0, hz1, hz2⟩ := hz
  go_enter Tryz.func107, Tryz.ntmps107
  go_wp2_with (go_at_call 93; refine (copyCheck_any h).mono ?_)
  rintro e w1 ⟨rfl, h1, hS1⟩
  have c3 := h1.c3
  obtain ⟨h2, hS2⟩ := h1.kept ((Below.refl w1.heap.size w1).alloc (Nat.le_refl _) (.cells #[.int .u8 (c.toNat : Int)] 5))
  go_wp2_with (at_builtin; refine wpList_app _ rfl _ _ 93 rfl B 5 i0 (.int .u8 0) 1 1 Tryz.underlying93 hi hz0 hz1 hz2 rfl (by decide) _ _ _ rfl h2.txt ⟨w1.heap.size, 0, none⟩ 1 1 [.int .u8 (c.toNat : Int)] rfl rfl ?c1 ?c2 ?c3 ?c4 ?c5 ?_)
  case c1 =>
    intro j x hj
    match j, hj with
    | 0, hj => simp at hj; subst hj; simp [Addr.add]
  case c2 => intro x hx; simp at hx; subst hx; rfl
  case c3 => unfold maxLen; omega
  case c4 => omega
  case c5 => have := hS1.kp.size; simp; omega
  intro u' w2 hown' hgrow hwh
  have hp := h2.putU (t' := t ++ [c]) hgrow (by rw [List.length_append, byteCells_app]; exact hown') hwh
  have hq2 : w2.heap[q]? = some (.cells #[.string s, v, .pointer (some ⟨q, 2, none⟩), u] 111 (0, 0)) := (hgrow.block q h2.lt fun e => h2.neu e.symm).trans h2.blk
  have d3 : w2.cell? ⟨q, 3, none⟩ = some u := by rw [Lib.cell_of_heap hq2]; rfl
  have f3 : w2.frozen? ⟨q, 3, none⟩ = false := Lib.frozen_of_heap hq2 3
  obtain ⟨ao, n', cap, rfl⟩ : ∃ ao n' cap, u' = .slice ao n' cap := by
    rcases hown'.2 with ⟨hv, _⟩ | ⟨g, cap, cur, hv, _⟩
    · exact ⟨_, _, _, hv⟩
    · exact ⟨_, _, _, hv⟩
  go_wp2
  go_ret
  exact ⟨rfl, _, _, _, hp.1, hS1.trans (hS2.trans hp.2)⟩
set_option maxHeartbeats 2000000 in
set_option maxRecDepth 100000 in
theorem writeString_any (l : List UInt8) (hB : B ≤ w.heap.size) (hlen : t.length + l.length ≤ 140737488355328) (h : RdAt B q s ps t v p u w) :
    Calls Tryz.prog 46 #[.pointer (some ⟨q, 2, none⟩), strV l] w fun e w' => e = .returned (.tuple #[.int .i64 (l.length : Int), .nilIface]) ∧ ∃ v p u, RdAt B q s ps (t ++ l) v p u w' ∧ St q w w' := by
  unfold strV
  obtain ⟨i0, hi, hz⟩ := Option.map_eq_some_iff.1 (show (Tryz.prog.info? 5).map (fun i => (i.zero, i.size, i.bytes)) = some (some (.int .u8 0), 1, 1) by kernel_rfl)
  simp only [Prod.mk.injEq] at hz
  obtain ⟨hz0, hz1, hz2⟩ := hz
  have hsz := sz_l l
  go_enter Tryz.func46, Tryz.ntmps46
  go_wp2_with (go_at_call 93; refine (copyCheck_any h).mono ?_)
  rintro e w1 ⟨rfl, h1, hS1⟩
  have c3 := h1.c3
  go_wp2_with (at_builtin; refine wpList_apps _ rfl _ _ 93 9 rfl B 5 i0 Tryz.underlying93 Tryz.underlying9 hi hz0 hz1 hz2 _ _ _ rfl h1.txt ⟨l.toArray⟩ rfl ?c4 ?c5 ?_)
  case c4 => rw [sz_l]; omega
  case c5 => have := hS1.kp.size; omega
  intro u' w2 hown' hgrow hwh
  have hp := h1.putU (t' := t ++ l) hgrow (by rw [List.length_append, byteCells_app, ← byteCells_str l, ← sz_l l]; exact hown') hwh
  have hq2 : w2.heap[q]? = some (.cells #[.string s, v, .pointer (some ⟨q, 2, none⟩), u] 111 (0, 0)) := (hgrow.block q h1.lt fun e => h1.neu e.symm).trans h1.blk
  have d3 : w2.cell? ⟨q, 3, none⟩ = some u := by rw [Lib.cell_of_heap hq2]; rfl
  have f3 : w2.frozen? ⟨q, 3, none⟩ = false := Lib.frozen_of_heap hq2 3
  obtain ⟨ao, n', cap, rfl⟩ : ∃ ao n' cap, u' = .slice ao n' cap := by
    rcases hown'.2 with ⟨hv, _⟩ | ⟨g, cap, cur, hv, _⟩
    · exact ⟨_, _, _, hv⟩
    · exact ⟨_, _, _, hv⟩
  go_wp2
  go_ret2
  exact ⟨by simp, _, _, _, hp.1, hS1.trans hp.2⟩
set_option maxRecDepth 100000 in
theorem reset_any (h : RdAt B q s ps t v p u w) :
    Calls Tryz.prog 139 #[.pointer (some ⟨q, 2, none⟩)] w fun e w' => e = .returned (.tuple #[]) ∧ ∃ v p u, RdAt B q s ps [] v p u w' ∧ St q w w' := by
  have f2 := h.fz 2
  have c2 := h.c2
  obtain ⟨h1, hS1⟩ := h.putP (.pointer none) (.inl rfl)
  have f3 := h1.fz 3
  have c3 := h1.c3
  obtain ⟨h2, hS2⟩ := h1.dropU
  go_enter Tryz.func139, Tryz.ntmps139
  go_wp2
  go_end0
  exact ⟨rfl, _, _, _, h2, hS1.trans hS2⟩
/-- The reader without its characters (String has frozen them; Reset comes next). -/
structure RdN (B q : Nat) (s : ByteArray) (ps : List Pc) (v p u : Value) (w : World) : Prop where
  low : B ≤ q
  blk : w.heap[q]? = some (.cells #[.string s, v, p, u] 111 (0, 0))
  own : w.ownsRow B 60 4 v ps.length (pcs ps)
  adr : p = .pointer none ∨ p = .pointer (some ⟨q, 2, none⟩)
/-- What String leaves: the buffer alone may have turned. -/
theorem RdAt.toN (h : RdAt B q s ps t v p u w) {w' : World} (hos : w'.os = w.os) (htp : w'.tape = w.tape) (hou : w'.output = w.output) (hsz : w.heap.size ≤ w'.heap.size) (hk : ∀ k, k < w.heap.size → u.ownBlock ≠ some k → w'.heap[k]? = w.heap[k]?) :
    RdN B q s ps v p u w' ∧ St q w w' := by
  have hq := (hk q h.lt h.neu).trans h.blk
  have hN : RdN B q s ps v p u w' := ⟨h.low, hq, row_kept h.own fun g hg => hk g (by obtain ⟨_, c, hc⟩ := row_blk h.own hg; exact blk_lt hc) (h.vu g hg), h.adr⟩
  refine ⟨hN, ⟨hos, htp, hou, hsz, fun k h1 h2 => hk k h1 fun e => h2 ((h.owns k).2 (.inr (.inr e)))⟩, fun k h1 h2 => ?_⟩
  rcases h2 with h2 | ⟨cs, T, fr, h2, h3⟩
  · exact .inl h2
  · rw [hq, ← h.blk] at h2
    exact .inr ⟨cs, T, fr, h2, h3⟩
theorem below_toN (h : RdAt B q s ps t v p u w) {w' : World} (hb : Below w.heap.size w w') : RdN B q s ps v p u w' ∧ St q w w' := h.toN hb.os hb.tape hb.output hb.size fun k hk _ => hb.block k hk
set_option maxHeartbeats 2000000 in
set_option maxRecDepth 100000 in
theorem string_any (h : RdAt B q s ps t v p u w) :
    Calls Tryz.prog 50 #[.pointer (some ⟨q, 2, none⟩)] w fun e w' => e = .returned (strV t) ∧ RdN B q s ps v p u w' ∧ St q w w' := by
  have hUS := fun (W : World) (q : Option Addr) => Lib.run_unsafeString_none (P := Tryz.prog) W 155 3 9 q
  have c3 := h.c3
  have c3' : w.drew.cell? ⟨q, 3, none⟩ = some u := c3
  unfold strV
  rcases h.txt.2 with ⟨rfl, h0⟩ | ⟨g, cap, cur, rfl, hbg, hg, hnc, hcm, hcs, htake⟩
  · obtain rfl : t = [] := List.eq_nil_of_length_eq_zero h0
    have hSD : (Builtin.unsafeSliceData_ #[93] 155 #[.slice none 0 0]).run Tryz.prog w.drew = .ok (.pointer none) w.drew := rfl
    go_enter Tryz.func50, Tryz.ntmps50
    go_wp2
    go_region
    all_goals (go_wp2; go_ret; exact ⟨rfl, below_toN h (Below.drew (Below.refl _ w))⟩)
  · by_cases h0 : t.length = 0
    · obtain rfl : t = [] := List.eq_nil_of_length_eq_zero h0
      by_cases hc0 : cap = 0
      · subst hc0
        have hSD : (Builtin.unsafeSliceData_ #[93] 155 #[.slice (some ⟨g, 0, none⟩) 0 0]).run Tryz.prog w.drew = .ok (.pointer (some ⟨w.drew.heap.size, 0, none⟩)) (w.drew.alloc (.view ⟨g, 0, none⟩ 5)) :=
          Lib.run_unsafeSliceData_zero w.drew _ _ 5 Tryz.underlying155 ⟨g, 0, none⟩ 0 (5, cur.size) (by have hg' : w.drew.heap[g]? = some (.cells cur 5 (0, 0)) := hg; simp [World.shape?, hg'])
        have c2 : (w.drew.alloc (.view ⟨g, 0, none⟩ 5)).cell? ⟨q, 3, none⟩ = some (.slice (some ⟨g, 0, none⟩) 0 0) := by
          have : (w.drew.alloc (.view ⟨g, 0, none⟩ 5)).heap[q]? = _ := (Lib.alloc_old w.drew _ q h.lt).trans h.blk
          rw [Lib.cell_of_heap this]; rfl
        have c4 : (w.alloc (.view ⟨g, 0, none⟩ 5)).drew.cell? ⟨q, 3, none⟩ = some (.slice (some ⟨g, 0, none⟩) 0 0) := c2
        go_enter Tryz.func50, Tryz.ntmps50
        go_wp2
        go_region
        all_goals (go_wp2; go_ret; exact ⟨rfl, below_toN h ((Below.drew (Below.refl _ w)).alloc (Nat.le_refl _) _)⟩)
      · have hSD : (Builtin.unsafeSliceData_ #[93] 155 #[.slice (some ⟨g, 0, none⟩) 0 cap]).run Tryz.prog w.drew = .ok (.pointer (some ⟨g, 0, none⟩)) w.drew :=
          Lib.run_unsafeSliceData_row _ _ _ _ _ _ hc0
        clear hc0
        go_enter Tryz.func50, Tryz.ntmps50
        go_wp2
        go_region
        all_goals (go_wp2; go_ret; exact ⟨rfl, below_toN h (Below.drew (Below.refl _ w))⟩)
    · have hSD : (Builtin.unsafeSliceData_ #[93] 155 #[.slice (some ⟨g, 0, none⟩) t.length cap]).run Tryz.prog w.drew = .ok (.pointer (some ⟨g, 0, none⟩)) w.drew :=
        Lib.run_unsafeSliceData_row _ _ _ _ _ _ (by omega)
      have hUS' : (Builtin.unsafeString_ #[155, 3] 9 #[.pointer (some ⟨g, 0, none⟩), .int .i64 t.length]).run Tryz.prog w.drew = .ok (.string ⟨t.toArray⟩) (w.drew.freeze ⟨g, 0, none⟩ t.length) := by
        refine Lib.run_unsafeString_row w.drew 155 3 9 5 Tryz.underlying155 (by kernel_rfl) g cur.size (by have hg' : w.drew.heap[g]? = some (.cells cur 5 (0, 0)) := hg; simp [World.shape?, hg']) t (fun e => h0 (by rw [e]; rfl)) (by omega) (by unfold maxLen at hcm; omega) ?_
        intro j x hx
        have := h.txt.cells (g := g) rfl j (.int .u8 x.toNat) (by simp [Lib.byteCells, hx])
        exact this
      have hfr : ∀ k, k ≠ g → (w.drew.freeze ⟨g, 0, none⟩ t.length).heap[k]? = w.heap[k]? := fun k hk => by
        show (w.drew.freeze ⟨g, 0, none⟩ t.length).heap[k]? = w.drew.heap[k]?
        unfold World.freeze
        rw [if_neg h0]
        show (w.drew.heap.modify g _)[k]? = w.drew.heap[k]?
        rw [Array.getElem?_modify, if_neg (Ne.symm hk)]
      clear hUS
      go_enter Tryz.func50, Tryz.ntmps50
      go_wp2
      go_region
      all_goals (go_wp2; go_ret)
      all_goals
        have hb := (Lib.below_freeze (B := 0) (Below.drew (Below.refl 0 w)) (p := ⟨g, 0, none⟩) (Nat.zero_le _) t.length)
        exact ⟨rfl, h.toN hb.os hb.tape hb.output hb.size fun k _ hk => hfr k fun e => hk (by rw [e]; rfl)⟩
theorem RdN.kept (h : RdN B q s ps v p u w) {w' : World} (hb : Below w.heap.size w w') : RdN B q s ps v p u w' ∧ St q w w' := by
  have hq : w'.heap[q]? = w.heap[q]? := hb.block q (blk_lt h.blk)
  refine ⟨⟨h.low, hq.trans h.blk, row_kept h.own fun g hg => hb.block g (by obtain ⟨_, c, hc⟩ := row_blk h.own hg; exact blk_lt hc), h.adr⟩, Kp.of_below hb, fun k _ h2 => ?_⟩
  rcases h2 with h2 | ⟨cs, T, fr, h2, h3⟩
  · exact .inl h2
  · rw [hq] at h2
    exact .inr ⟨cs, T, fr, h2, h3⟩
theorem RdN.c1 (h : RdN B q s ps v p u w) : w.cell? ⟨q, 1, none⟩ = some v := by rw [Lib.cell_of_heap h.blk]; rfl
theorem RdN.f1 (h : RdN B q s ps v p u w) : w.frozen? ⟨q, 1, none⟩ = false := Lib.frozen_of_heap h.blk 1
theorem RdN.putV (h : RdN B q s ps v p u w) {w2 : World} {v' : Value} {ps' : List Pc} (hg : w.grownBy w2 v.ownBlock) (ho : w2.ownsRow B 60 4 v' ps'.length (pcs ps')) (hw : Where w v v') :
    RdN B q s ps' v' p u (w2.setCell ⟨q, 1, none⟩ v') ∧ St q w (w2.setCell ⟨q, 1, none⟩ v') ∧ w2.cell? ⟨q, 1, none⟩ = some v ∧ w2.frozen? ⟨q, 1, none⟩ = false := by
  have hne0 : v.ownBlock ≠ some q := own_ne h.own h.blk (by decide)
  have hb2 : w2.heap[q]? = some (.cells #[.string s, v, p, u] 111 (0, 0)) := (hg.block q (blk_lt h.blk) fun e => hne0 e.symm).trans h.blk
  have hb : (w2.setCell ⟨q, 1, none⟩ v').heap[q]? = some (.cells #[.string s, v', p, u] 111 (0, 0)) := by
    simp [World.setCell, Array.getElem?_modify, hb2]
  have hne : v'.ownBlock ≠ some q := own_ne ho hb2 (by decide)
  have own0 : ∀ k, v.ownBlock = some k → ownOf q w k := fun k hk => .inr ⟨_, _, _, h.blk, 1, v, rfl, hk⟩
  refine ⟨⟨h.low, hb, row_kept ho fun g hg' => set_other _ _ fun e => hne (by rw [hg', e]), h.adr⟩, ⟨⟨hg.os, hg.tape, hg.output, by simpa [World.setCell] using hg.size, fun k hk hn => ?_⟩, fun k hk h1 => ?_⟩, by rw [Lib.cell_of_heap hb2]; rfl, Lib.frozen_of_heap hb2 1⟩
  · rw [set_other _ _ (fun e => hn (.inl e)), hg.block k hk fun e => hn (own0 k e.symm)]
  · rcases h1 with h1 | ⟨cs, T, fr, h1, j, x, h2, h3⟩
    · exact .inl h1
    · rw [hb] at h1
      simp only [Option.some.injEq, Obj.cells.injEq] at h1
      obtain ⟨rfl, _, _⟩ := h1
      match j, h2 with
      | 0, h2 => simp at h2; subst h2; simp [Value.ownBlock] at h3
      | 1, h2 =>
        simp at h2
        subst h2
        rcases hw with hw | ⟨b, hw, hle⟩
        · exact own0 k (hw ▸ h3)
        · rw [hw] at h3
          simp only [Option.some.injEq] at h3
          omega
      | 2, h2 => simp at h2; subst h2; rcases h.adr with rfl | rfl <;> simp [Value.ownBlock] at h3
      | 3, h2 => simp at h2; subst h2; exact .inr ⟨_, _, _, h.blk, 3, u, rfl, h3⟩
theorem RdAt.n (h : RdAt B q s ps t v p u w) : RdN B q s ps v p u w := ⟨h.low, h.blk, h.own, h.adr⟩
set_option maxRecDepth 100000 in
theorem reset_n (h : RdN B q s ps v p u w) :
    Calls Tryz.prog 139 #[.pointer (some ⟨q, 2, none⟩)] w fun e w' => e = .returned (.tuple #[]) ∧ ∃ p, RdAt B q s ps [] v p (.slice none 0 0) w' ∧ St q w w' := by
  have hlt := blk_lt h.blk
  have c2 : w.cell? ⟨q, 2, none⟩ = some p := by rw [Lib.cell_of_heap h.blk]; rfl
  have f2 : w.frozen? ⟨q, 2, none⟩ = false := Lib.frozen_of_heap h.blk 2
  have hb1 : (w.setCell ⟨q, 2, none⟩ (.pointer none)).heap[q]? = some (.cells #[.string s, v, .pointer none, u] 111 (0, 0)) := by
    simp [World.setCell, Array.getElem?_modify, h.blk]
  have c3 : (w.setCell ⟨q, 2, none⟩ (.pointer none)).cell? ⟨q, 3, none⟩ = some u := by rw [Lib.cell_of_heap hb1]; rfl
  have f3 : (w.setCell ⟨q, 2, none⟩ (.pointer none)).frozen? ⟨q, 3, none⟩ = false := Lib.frozen_of_heap hb1 3
  have hb2 : ((w.setCell ⟨q, 2, none⟩ (.pointer none)).setCell ⟨q, 3, none⟩ (.slice none 0 0)).heap[q]? = some (.cells #[.string s, v, .pointer none, .slice none 0 0] 111 (0, 0)) := by
    simp [World.setCell, Array.getElem?_modify, h.blk]
  have ho : ∀ k, k ≠ q → ((w.setCell ⟨q, 2, none⟩ (.pointer none)).setCell ⟨q, 3, none⟩ (.slice none 0 0)).heap[k]? = w.heap[k]? := fun k hk => (set_other _ _ hk).trans (set_other _ _ hk)
  have hne : v.ownBlock ≠ some q := own_ne h.own h.blk (by decide)
  have hR : RdAt B q s ps [] v (.pointer none) (.slice none 0 0) ((w.setCell ⟨q, 2, none⟩ (.pointer none)).setCell ⟨q, 3, none⟩ (.slice none 0 0)) :=
    ⟨h.low, hb2, row_kept h.own fun g hg => ho g fun e => hne (by rw [hg, e]), World.ownsRow_nil _ _ _ _, .inl rfl⟩
  go_enter Tryz.func139, Tryz.ntmps139
  go_wp2
  go_end0
  refine ⟨rfl, _, hR, ⟨rfl, rfl, rfl, by simp [World.setCell], fun k _ hn => ho k fun e => hn (Or.inl e)⟩, fun k _ h1 => ?_⟩
  rcases (hR.owns k).1 h1 with h1 | h1 | h1
  · exact Or.inl h1
  · exact Or.inr ⟨_, _, _, h.blk, 1, v, rfl, h1⟩
  · simp [Value.ownBlock] at h1
end
/-! ### flush -/
def blankL (t : List UInt8) : Bool := (Lib.trimS t [32, 9, 13, 10]).isEmpty
def chars (t : List UInt8) : Pc := ⟨3, 0, ⟨#[]⟩, ⟨t.toArray⟩⟩
/-- The pieces behind a flush. -/
def flushL (ps : List Pc) (t : List UInt8) : List Pc := if blankL t = true then ps else ps ++ [chars t]
section
variable {B q : Nat} {s : List UInt8} {ps : List Pc} {t : List UInt8} {w : World}
set_option maxHeartbeats 2000000 in
set_option maxRecDepth 100000 in
theorem flush_any (hC : Cx B w) (ht : t.length ≤ 65536) (hps : ps.length ≤ 1000000) (h : Rd B q s ps t w) :
    Calls Tryz.prog 105 #[.pointer (some ⟨q, 0, none⟩)] w fun e w' => Res B q w (some (.tuple #[], s, flushL ps t, [])) e w' := by
  obtain ⟨v, p, u, hA⟩ := h
  have hs := string_any hA
  have hB := hC.le
  have htr := fun W => Any.strings_Trim_laid Tryz.laysTrim (by kernel_rfl) ⟨t.toArray⟩ ⟨#[32, 9, 13, 10]⟩ W (by rw [sz_l]; omega) (by decide) (ascii_of_all (by decide))
  change ∀ W, Calls Tryz.prog 92 #[strV t, .string ⟨#[32, 9, 13, 10]⟩] W (fun e w' => e = .returned (strV (Lib.trimS t [32, 9, 13, 10])) ∧ Below W.heap.size W w') at htr
  unfold flushL blankL
  cases hb : (Lib.trimS t [32, 9, 13, 10]).isEmpty with
  | true =>
    have he : Lib.trimS t [32, 9, 13, 10] = [] := List.isEmpty_iff.1 hb
    rw [he] at htr
    rw [if_pos rfl]
    go_enter Tryz.func105, Tryz.ntmps105
    go_wp2_with (first | (go_at_call 50; refine hs.mono ?_; rintro e w1 ⟨rfl, hN1, hS1⟩) | (go_at_call 92; refine (htr _).mono ?_; rintro e w2 ⟨rfl, hb2⟩; obtain ⟨hN2, hS2⟩ := hN1.kept hb2) | (go_at_call 139; refine (reset_n hN2).mono ?_; rintro e w3 ⟨rfl, p3, hR3, hS3⟩))
    go_end0
    exact ⟨rfl, ⟨_, _, _, hR3⟩, hS1.trans (hS2.trans hS3)⟩
  | false =>
    rw [if_neg (by simp)]
    obtain ⟨x, r, he⟩ : ∃ x r, Lib.trimS t [32, 9, 13, 10] = x :: r := by
      cases h : Lib.trimS t [32, 9, 13, 10] with
      | nil => rw [h] at hb; cases hb
      | cons x r => exact ⟨x, r, rfl⟩
    rw [he] at htr
    obtain ⟨i0, hi, hz⟩ := Option.map_eq_some_iff.1 (show (Tryz.prog.info? 60).map (fun i => (i.zero, i.size, i.bytes)) = some (some (.agg #[.int .i64 0, .int .i64 0, .string ByteArray.empty, .string ByteArray.empty]), 4, 48) by kernel_rfl)
    simp only [Prod.mk.injEq] at hz
    obtain ⟨hz0, hz1, hz2⟩ := hz
    obtain ⟨ao, cap, rfl⟩ : ∃ ao cap, v = .slice ao ps.length cap := by
      rcases hA.own.2 with ⟨hv, h0⟩ | ⟨g, cap, cur, hv, _⟩
      · exact ⟨none, 0, by rw [hv, h0]⟩
      · exact ⟨_, _, hv⟩
    go_enter Tryz.func105, Tryz.ntmps105
    go_wp2_with (go_at_call 50; refine hs.mono ?_)
    rintro e w1 ⟨rfl, hN1, hS1⟩
    go_wp2_with (go_at_call 92; refine (htr _).mono ?_)
    rintro e w2 ⟨rfl, hb2⟩
    obtain ⟨hN2, hS2⟩ := hN1.kept hb2
    have d1 := hN2.c1
    obtain ⟨hN3, hS3⟩ := hN2.kept ((Below.refl w2.heap.size w2).alloc (Nat.le_refl _) (.cells #[.int .i64 3, .int .i64 0, .string ⟨#[]⟩, strV t] 60))
    go_wp2_with (at_builtin; refine wpList_app _ rfl _ _ 48 rfl B 60 i0 _ 4 48 Tryz.underlying48 hi hz0 hz1 hz2 rfl (by decide) _ _ _ rfl hN3.own ⟨w2.heap.size, 0, none⟩ 1 1 (pcCells (chars t)) rfl rfl ?c1 ?c2 ?c3 ?c4 ?c5 ?_)
    case c1 =>
      intro j x hj
      match j, hj with
      | 0, hj => simp [pcCells, chars] at hj; subst hj; simp [Addr.add]
      | 1, hj => simp [pcCells, chars] at hj; subst hj; simp [Addr.add]
      | 2, hj => simp [pcCells, chars] at hj; subst hj; simp [Addr.add]
      | 3, hj => simp [pcCells, chars] at hj; subst hj; simp [Addr.add]
    case c2 => intro x hx; simp [pcCells, chars] at hx; rcases hx with rfl | rfl | rfl | rfl <;> rfl
    case c3 => unfold maxLen; omega
    case c4 => omega
    case c5 => have := hS1.kp.size; have := hS2.kp.size; simp; omega
    intro v' w3 hown' hgrow hwh
    obtain ⟨ao', n', cap', rfl⟩ : ∃ ao n' cap, v' = .slice ao n' cap := by
      rcases hown'.2 with ⟨hv, _⟩ | ⟨g, cap, cur, hv, _⟩
      · exact ⟨_, _, _, hv⟩
      · exact ⟨_, _, _, hv⟩
    obtain ⟨hN4, hS4, e1, g1⟩ := hN3.putV (ps' := ps ++ [chars t]) hgrow (by rw [List.length_append, pcs_app]; exact hown') hwh
    go_wp2_with (go_at_call 139; refine (reset_n hN4).mono ?_)
    rintro e w4 ⟨rfl, p3, hR3, hS5⟩
    go_wp2
    go_end0
    exact ⟨rfl, ⟨_, _, _, hR3⟩, hS1.trans (hS2.trans (hS3.trans (hS4.trans hS5)))⟩
end
end Go.Proofs.YtpaopeiegaijiaaGreatDoor
