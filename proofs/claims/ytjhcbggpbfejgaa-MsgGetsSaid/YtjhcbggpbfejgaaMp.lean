/- The walk of msg's Put. -/
import Derived.Test.YtjhcbggpbfejgaaMw
import Derived.Test.YtjhcbggpbfejgaaMq
import Derived.Test.YtjhcbggpbfejgaaCl
import Derived.Deep.RegionWith
import Derived.Deep.RegionLaw
namespace Go.Proofs.Ytjhcbggpbfejgaa.Mp
open Go.RowKit Go.Proofs.zjt.zjq Go.Proofs.zjt.zjr Go.Proofs.zjt.zjs
open Go.Proofs.Ytjhcbggpbfejgaa.Cp
open Go.Proofs.Ytjhcbggpbfejgaa.Mk
open Go.Proofs.Ytjhcbggpbfejgaa.Mq
open Go.Proofs.Ytjhcbggpbfejgaa.Mw
open Go.Proofs.Ytjhcbggpbfejgaa.Cw (info5 zcp logV LogOut zgo)
set_option linter.unusedVariables false
set_option linter.unusedSimpArgs false
theorem info38 : (Try.prog.info? 38).map (·.size) = some 14 := by kernel_rfl
/-- A message's value. -/
abbrev rpcV (m : Rpc) (A : Option Addr) (cap : Nat) (A2 : Option Addr) (cap2 : Nat) : Value := .agg #[.int .i64 m.kind, .int .i64 m.src, .int .i64 m.dst, .int .i64 m.term, .int .i64 m.at_, .int .i64 m.logTerm, .bool m.ok, .int .i64 m.commit, .int .i64 m.read, .slice A m.logs.length cap, .int .i64 m.snapAt, .int .i64 m.snapTerm, .slice A2 m.nodes.length cap2, .string m.data]
/-- What Put answers. -/
def PutOut (w : World) (m : Rpc) (e : Ending) (w' : World) : Prop := ∃ v, e = .returned (.tuple #[v, .int .i64 (if (putRpc m).isSome then 0 else 31)]) ∧ Kd.R (Kd.int .u8) 5 w' w.heap.size (fun _ => True) v ((putRpc m).getD []) ∧ Below w.heap.size w w'
theorem PutOut.bad {w w' : World} {m : Rpc} (h : putRpc m = none) (hb : Below w.heap.size w w') : PutOut w m (.returned (.tuple #[.slice none 0 0, .int .i64 31])) w' :=
  ⟨.slice none 0 0, by rw [h]; rfl, by rw [h]; exact Kd.zdf _ _ _ _ _, hb⟩
theorem PutOut.good {w w' : World} {m : Rpc} {v : Value} {bs : List Int} (h : putRpc m = some bs) (ho : Kd.R (Kd.int .u8) 5 w' w.heap.size (fun _ => True) v bs) (hb : Below w.heap.size w w') : PutOut w m (.returned (.tuple #[v, .int .i64 0])) w' :=
  ⟨v, by rw [h]; rfl, by rw [h]; exact ho, hb⟩
set_option maxHeartbeats 800000 in
set_option maxRecDepth 100000 in
/-- A kind that is none. -/
theorem Put_low (m : Rpc) (A : Option Addr) (cap : Nat) (A2 : Option Addr) (cap2 : Nat) (w : World) (hk : m.kind < 1 ∨ 6 < m.kind) :
    Calls Try.prog 28 #[rpcV m A cap A2 cap2] w (PutOut w m) := by
  have HP := Aside0.mk (show putRpc m = none by rw [putRpc, if_neg (by omega)])
  unfold rpcV
  rcases hk with hk | hk
  · have c1 : decide (m.kind < 1) = true := decide_eq_true hk
    go_enter Try.func28, Try.ntmps28
    go_wp2
    go_ret2
    exact PutOut.bad HP.out (by repeat (first | (with_reducible first | exact Below.refl _ _ | apply zad)))
  · have c1 : decide (m.kind < 1) = false := decide_eq_false (by omega)
    have c2 : decide (6 < m.kind) = true := decide_eq_true hk
    go_enter Try.func28, Try.ntmps28
    go_wp2
    go_ret2
    exact PutOut.bad HP.out (by repeat (first | (with_reducible first | exact Below.refl _ _ | apply zad)))
/-- The writer, with its first byte. -/
theorem WSt.first {w W : World} {k : Int} {g : Nat} (hB : Below w.heap.size w W) (hg : W.heap.size + 1 = g) :
    WSt w ((W.alloc (.cells #[.int .u8 k] 5)).alloc (.cells #[.slice (some ⟨W.heap.size, 0, none⟩) 1 1] 104)) g (fun k => k = W.heap.size) ((W.alloc (.cells #[.int .u8 k] 5)).alloc (.cells #[.slice (some ⟨W.heap.size, 0, none⟩) 1 1] 104)) [k] := by
  subst hg
  have h1 : ((W.alloc (.cells #[.int .u8 k] 5)).alloc (.cells #[.slice (some ⟨W.heap.size, 0, none⟩) 1 1] 104)).heap[W.heap.size]? = some (.cells #[.int .u8 k] 5 (0, 0)) := zaf (zbt W _) _
  refine ⟨zad (zad hB _) _, Kept.refl _ _, by have := hB.size; omega, .slice (some ⟨W.heap.size, 0, none⟩) 1 1, ?_, ?_⟩
  · have := zbt (W.alloc (.cells #[.int .u8 k] 5)) (.cells #[.slice (some ⟨W.heap.size, 0, none⟩) 1 1] 104)
    simpa using this
  · refine Kd.zey (h1 := fun _ => rfl) ?_ (fun k hk => .inl (by simpa [Value.ownBlock] using hk.symm))
    refine ⟨rfl, .inr ⟨W.heap.size, 1, #[.int .u8 k], rfl, hB.size, h1, ?_, ?_, ?_, ?_⟩⟩
    all_goals first | rfl | decide | simp [encs]
theorem WSt.below' {w0 w : World} {g : Nat} {P : Nat → Prop} {W W1 : World} {xs : List Int} (h : WSt w0 w g P W xs) (hB : Below W.heap.size W W1) : WSt w0 w g P W1 xs := by
  obtain ⟨hb, hk, hg, v, hc, ho⟩ := h
  exact ⟨Go.Proofs.Ytjhcbggpbfejgaa.Cw.bthen hb hB, ⟨Nat.le_trans hk.1 hB.size, fun k hlt hn => (hB.block k (Nat.lt_of_lt_of_le hlt hk.1)).trans (hk.2 k hlt hn)⟩, hg, v, zbn hc hB, Kd.zcq ho hB⟩
theorem WSt.grown {w0 w : World} {g b t : Nat} {P : Nat → Prop} {W W1 : World} {xs : List Int} {cs : Array Value} (h : WSt w0 w g P W xs) (hb1 : W.heap[b]? = some (.cells cs t (0, 0))) (ht : t ≠ 104 ∧ t ≠ 5) (hle : w0.heap.size ≤ w.heap.size) (hge : w.heap.size ≤ b) (hg1 : W.grownBy W1 (some b)) : WSt w0 w g P W1 xs := by
  obtain ⟨hb, hk, hg, v, hc, ho⟩ := h
  refine ⟨hb.grown hg1 hb.size (fun k hk => by injection hk with hk; omega), Kept.zec hg1 hk (fun k hk => by injection hk with hk; exact .inr (hk ▸ hge)), hg, v, zbm hc hg1 (by intro he; injection he with he; exact ht.1 (by have := zih hb1 hc ht.1; omega)), ?_⟩
  exact Kd.zbh (Kd.zeo (Kd.zco ho hb1 (by intro q hq; simp [Kd.int, Kd.scalar] at hq; omega)) hg1 (fun k hk he => hk.2 (by injection he))) (fun k hk => hk.1)
/-- A message's cells. -/
abbrev rpcC (m : Rpc) (A : Option Addr) (cap : Nat) (A2 : Option Addr) (cap2 : Nat) : Array Value := #[.int .i64 m.kind, .int .i64 m.src, .int .i64 m.dst, .int .i64 m.term, .int .i64 m.at_, .int .i64 m.logTerm, .bool m.ok, .int .i64 m.commit, .int .i64 m.read, .slice A m.logs.length cap, .int .i64 m.snapAt, .int .i64 m.snapTerm, .slice A2 m.nodes.length cap2, .string m.data]
theorem item_split0 (l : List S38) (j : Nat) (hj : j < l.length) : (l.take (j + 1)).flatMap logItem = (l.take j).flatMap logItem ++ logItem (zak l j) := by
  rw [List.take_succ_eq_append_getElem hj, List.flatMap_append]
  congr 1
  simp [zak, List.getD_eq_getElem?_getD, List.getElem?_eq_getElem hj]
theorem item_le0 (l : List S38) (j : Nat) (hj : j < l.length) : ((l.take j).flatMap logItem).length + (logItem (zak l j)).length ≤ (l.flatMap logItem).length := by
  have h : l.flatMap logItem = (l.take (j + 1)).flatMap logItem ++ (l.drop (j + 1)).flatMap logItem := by rw [← List.flatMap_append, List.take_append_drop]
  rw [h, item_split0 l j hj]
  simp only [List.length_append]
  omega
theorem rd_toNat (l : List S38) (x : Int) : zak l (x.toNat : Int) = zak l x := rfl
theorem ziy (l : List S38) (x : Int) (h0 : 0 ≤ x) (hj : x < l.length) : zak l x ∈ l := by
  have h1 : x.toNat < l.length := by omega
  simp [zak, List.getD_eq_getElem?_getD, List.getElem?_eq_getElem h1]
theorem all_take0 (l : List S38) (j : Nat) (hj : j < l.length) (h : (l.take j).all logGood = true) (h2 : logGood (zak l j) = true) : (l.take (j + 1)).all logGood = true := by
  rw [List.take_succ_eq_append_getElem hj, List.all_append, h]
  have e : zak l j = l[j] := by simp [zak, List.getD_eq_getElem?_getD, List.getElem?_eq_getElem hj]
  rw [e] at h2
  simp [h2]
theorem zdz {W W1 : World} {o : Obj} (h : (W.alloc o).grownBy W1 (some W.heap.size)) : Below W.heap.size W W1 :=
  (zad (Below.refl _ _) o).grown h (by simp) (fun k hk => by injection hk with hk; omega)
theorem logItem_txt (x : S38) : txt (strOfNums (logBytes x)) = logItem x := by
  have hb : Bs (logBytes x) := by
    unfold logBytes
    cases h : putLog (logOf x) with
    | none => intro y hy; simp at hy
    | some b => exact Go.Proofs.Ytjhcbggpbfejgaa.Mq.bs_putLog h
  have e := zfd (logBytes x) hb
  have el : (strOfNums (logBytes x)).size = (logBytes x).length := by rw [← bytesOf_length, e]
  rw [txt, logItem, e, el]
set_option maxHeartbeats 1600000 in
set_option maxRecDepth 100000 in
theorem Put_good (m : Rpc) (A : Option Addr) (cap : Nat) (A2 : Option Addr) (cap2 : Nat) (w : World) (hk : 1 ≤ m.kind ∧ m.kind ≤ 6) (hA : Kd.C k38 w A m.logs.length m.logs) (hc : m.logs.length ≤ cap) (hA2 : Kd.C (Kd.int .i64) w A2 m.nodes.length m.nodes) (hf : fitsRpc m) :
    Calls Try.prog 28 #[rpcV m A cap A2 cap2] w (PutOut w m) := by
  have HR := Aside0.mk hA
  have HR2 := Aside0.mk hA2
  have HF := Aside0.mk hf.1
  have HF2 := Aside0.mk hf.2
  have HE := Aside0.mk (show (encRpc m).length = 98 + (m.logs.flatMap logItem).length + (nums8 m.nodes).length + m.data.size by simp only [encRpc, List.length_append, List.length_singleton, zdh, zdc, List.length_cons, List.length_nil]; omega)
  rw [HE.out] at HF
  have HKD := Aside0.mk hk
  have c1 : decide (m.kind < 1) = false := decide_eq_false (by omega)
  have c2 : decide (6 < m.kind) = false := decide_eq_false (by omega)
  have c3 : IntKind.u8.wrap m.kind = m.kind := by simp [IntKind.wrap, IntKind.signed, IntKind.bits]; omega
  have c4 : m.kind % 256 = m.kind := by omega
  have hl1 := hA.2.1
  have hl2 := hA2.2.1
  have HX0 := Aside0.mk (zaf (zaf (zbt w (.cells (rpcC m A cap A2 cap2) 66)) (.cells #[.int .u8 m.kind] 5)) (.cells #[.slice (some ⟨w.heap.size + 1, 0, none⟩) 1 1] 104))
  have H0 : Aside0 (WSt w (((w.alloc (.cells (rpcC m A cap A2 cap2) 66)).alloc (.cells #[.int .u8 m.kind] 5)).alloc (.cells #[.slice (some ⟨w.heap.size + 1, 0, none⟩) 1 1] 104)) (w.heap.size + 1 + 1) (fun k => k = w.heap.size + 1) (((w.alloc (.cells (rpcC m A cap A2 cap2) 66)).alloc (.cells #[.int .u8 m.kind] 5)).alloc (.cells #[.slice (some ⟨w.heap.size + 1, 0, none⟩) 1 1] 104)) [m.kind]) := ⟨by
    have := WSt.first (w := w) (W := w.alloc (.cells (rpcC m A cap A2 cap2) 66)) (k := m.kind) (g := w.heap.size + 1 + 1) (zad (Below.refl _ _) _) (by simp)
    simpa using this⟩
  have HP0 : Aside0 (∀ k, k = w.heap.size + 1 → ∃ cells, (((w.alloc (.cells (rpcC m A cap A2 cap2) 66)).alloc (.cells #[.int .u8 m.kind] 5)).alloc (.cells #[.slice (some ⟨w.heap.size + 1, 0, none⟩) 1 1] 104)).heap[k]? = some (.cells cells 5 (0, 0))) := ⟨by
    rintro k rfl
    have := zaf (zbt (w.alloc (.cells (rpcC m A cap A2 cap2) 66)) (.cells #[.int .u8 m.kind] 5)) (.cells #[.slice (some ⟨w.heap.size + 1, 0, none⟩) 1 1] 104)
    exact ⟨_, by simpa using this⟩⟩
  clear hA hA2 hf hk
  unfold rpcV
  unfold rpcC at *
  have hbb : ∀ b : Bool, (if b = true then (1 : Int) else 0) = okByte b := fun _ => rfl
  obtain ⟨kind, src, dst, term, at_, logTerm, ok, commit, read, logs, snapAt, snapTerm, nodes, data⟩ := m
  dsimp only at *
  obtain ⟨q, hq⟩ : ∃ q, okByte ok = q := ⟨_, rfl⟩
  have HQ := Aside0.mk hq
  clear hq
  cases ok
  all_goals
    go_enter Try.func28, Try.ntmps28
    go_wp2_with (first
      | (go_at_call 53; (with_reducible refine (zgl w _ (w.heap.size + 1 + 1) _ _ [kind] [src, dst, term, at_, logTerm] _ 5 5 _ H0.out ?n0 ?n1 ?n2 ?n3).mono ?_); (case n0 => simp); (case n1 => rfl); (case n2 => rfl); (case n3 => simp [nums8, zbo]); rintro e w1 ⟨rfl, h1⟩; have hx1 := h1.other H0.out HP0.out HX0.out (by decide) (by decide); obtain ⟨P1, h1, hp1⟩ := h1.rebase; have HP1 := Aside0.mk (fun k hk => (hp1 k hk).2); have H1 := Aside0.mk h1; have HX1 := Aside0.mk hx1; have c6 := (zaa hx1 6).trans rfl; clear hx1 hp1 h1; obtain ⟨hb, hk, hg, v, hc, ho⟩ := H1.out; obtain ⟨A3, m3, k3, e3⟩ := zcp ho; subst e3; have HB := Aside0.mk hb; have HK := Aside0.mk hk; have HG := Aside0.mk hg; have HC := Aside0.mk hc; have HO := Aside0.mk ho; have hcell := (zaa hc 0).trans rfl; clear hb hk hg hc ho)
      | ((with_reducible refine zcd (b := .append) (xs := #[.tmp 43, .tmp 45]) rfl ?_); at_builtin; (first | refine Kd.zdd (Kd.int .u8) (w0 := w) w.heap.size rfl (.tmp 43) (.tmp 45) 27 5 (.int .u8 0) 1 rfl Try.underlying27 info5 rfl (by decide) (by omega) (.slice A3 m3 k3) ([kind] ++ nums8 [src, dst, term, at_, logTerm]) (okByte false) [.int .u8 0] (fun k => P1 k ∨ w1.heap.size ≤ k) (fun _ => False) rfl rfl ?aP (fun _ hk => hk.elim) ?aF ?aO ?aB ?aS ?aL ?_ | refine Kd.zdd (Kd.int .u8) (w0 := w) w.heap.size rfl (.tmp 43) (.tmp 45) 27 5 (.int .u8 0) 1 rfl Try.underlying27 info5 rfl (by decide) (by omega) (.slice A3 m3 k3) ([kind] ++ nums8 [src, dst, term, at_, logTerm]) (okByte true) [.int .u8 1] (fun k => P1 k ∨ w1.heap.size ≤ k) (fun _ => False) rfl rfl ?aP (fun _ hk => hk.elim) ?aF ?aO ?aB ?aS ?aL ?_); (case aP => exact rfl); (case aF => exact fun k hk => .inr (Nat.le_trans HK.out.1 hk)); (case aO => exact HO.out); (case aB => exact HB.out); (case aS => exact zaz HB.out); (case aL => simp [zdc]); intro v5 w5 ho5 hb5 hg5 hat5; obtain ⟨A5, m5, k5, e5⟩ := zcp ho5; subst e5; have hc5 := zbm HC.out hg5 (Kd.R_ne HO.out HC.out (by decide)); have HC5 := Aside0.mk hc5; have hcell5 := (zaa hc5 0).trans rfl; have hfz5 := zab hc5 0; have hx5 := zbm HX1.out hg5 (Kd.R_ne HO.out HX1.out (by decide)); have hxs := fun v => zbi hx5 (p := ⟨w.heap.size + 1 + 1, 0, none⟩) (by show w.heap.size ≠ w.heap.size + 1 + 1; omega) v; have x7 := fun v => (zaa (hxs v) 7).trans rfl; have x8 := fun v => (zaa (hxs v) 8).trans rfl; have x9 := fun v => (zaa (hxs v) 9).trans rfl; clear hxs hx5; have HO5 := Aside0.mk ho5; have HB5 := Aside0.mk hb5; have HG5 := Aside0.mk hg5; clear hc5 ho5 hb5 hg5 hat5)
      | (go_at_call 53; (with_reducible refine (zgl w w1 (w.heap.size + 1 + 1) P1 _ _ [commit, read, (logs.length : Int)] _ 3 3 _ (WSt.put HK.out HG.out HC.out HO.out HO5.out HB5.out HG5.out) ?n0 ?n1 ?n2 ?n3).mono ?_); (case n0 => simp); (case n1 => rfl); (case n2 => rfl); (case n3 => simp [zdc]); rintro e w6 ⟨rfl, h6⟩; have hx6 := h6.other H1.out HP1.out HX1.out (by decide) (by decide); obtain ⟨P6, h6, hp6⟩ := h6.rebase; have HP6 := Aside0.mk (fun k hk => (hp6 k hk).2); have H6 := Aside0.mk (show WSt w w6 (w.heap.size + 1 + 1) P6 w6 ([kind] ++ nums8 [src, dst, term, at_, logTerm] ++ [q] ++ nums8 [commit, read, (logs.length : Int)]) from HQ.out ▸ h6); have HX6 := Aside0.mk hx6; have y9 := (zaa hx6 9).trans rfl; clear hx6 hp6 h6))
    obtain ⟨ys6, hys6⟩ : ∃ ys, [kind] ++ nums8 [src, dst, term, at_, logTerm] ++ [q] ++ nums8 [commit, read, (logs.length : Int)] = ys := ⟨_, rfl⟩
    have HY6 := Aside0.mk hys6
    have HYL := Aside0.mk (show ys6.length = 66 by rw [← hys6]; simp [zdc])
    rw [hys6] at H6
    clear hys6
    go_loopw [62] (fun i wr => ∃ x : Int, i = .int .i64 x ∧ Aside0 (0 ≤ x ∧ x ≤ logs.length) ∧ Aside0 ((logs.take x.toNat).all logGood = true) ∧ Aside0 (WSt w w6 (w.heap.size + 1 + 1) P6 wr (ys6 ++ (logs.take x.toNat).flatMap logItem))) (fun i _ => logs.length - (intOf i).toNat)
    case atStart => exact ⟨0, rfl, ⟨by omega⟩, ⟨by simp⟩, ⟨by simpa using H6.out⟩⟩
    case round =>
      obtain ⟨x, rfl, HX, HAL, HJ⟩ := hrel
      obtain ⟨hx0, hx1⟩ := HX.out
      by_cases c : x < logs.length
      · have e0 : decide (0 ≤ x) = true := decide_eq_true hx0
        have e1 : decide (x < (logs.length : Int)) = true := decide_eq_true c
        obtain ⟨ad, A9, c9, A13, c13, e, z0, z1, z2, z3, z4, z5, z6, z7, z8, z9, z10, z11, z12, z13, l9, g9, l13, g13⟩ := zjh (Kd.zci HR.out HJ.out.below) x hx0 c
        cases e
        have HG9 := Aside0.mk g9
        have HG13 := Aside0.mk g13
        clear g9 g13 l9 l13
        have HZ := Aside0.mk hx0
        cases hgd : logGood (zak logs x)
        · have HGD := Aside0.mk (show (putLog (logOf (zak logs x))).isSome = false from hgd)
          clear hgd
          go_wp2_with (first
            | ((with_reducible refine zbw (t := 38) (p := 7) rfl ?_); go_must (refine Ca.zbq (g := wr.heap.size) (e := 38) (old := #[.int .i64 0, .int .i64 0, .int .i64 0, .string ⟨#[]⟩, .string ⟨#[]⟩, .string ⟨#[]⟩, .string ⟨#[]⟩, .string ⟨#[]⟩, .string ⟨#[]⟩, .slice none 0 0, .int .i64 0, .int .i64 0, .int .i64 0, .slice none 0 0]) rfl rfl 38 (.tmp 7) (.tmp 65) rfl rfl rfl ?hb rfl info38 ?h1 ?_); go_must (case hb => exact zbt wr _); go_must (case h1 => intro q hq; simp at hq; rcases hq with rfl | rfl | rfl | rfl | rfl | rfl | rfl | rfl | rfl | rfl | rfl | rfl | rfl | rfl <;> rfl); intro w7 hb7 hg7; have HB7 := Aside0.mk hb7; have HG7 := Aside0.mk hg7; have u0 := (zaa hb7 0).trans rfl; have u1 := (zaa hb7 1).trans rfl; have u2 := (zaa hb7 2).trans rfl; have u3 := (zaa hb7 3).trans rfl; have u4 := (zaa hb7 4).trans rfl; have u5 := (zaa hb7 5).trans rfl; have u6 := (zaa hb7 6).trans rfl; have u7 := (zaa hb7 7).trans rfl; have u8 := (zaa hb7 8).trans rfl; have u9 := (zaa hb7 9).trans rfl; have u10 := (zaa hb7 10).trans rfl; have u11 := (zaa hb7 11).trans rfl; have u12 := (zaa hb7 12).trans rfl; have u13 := (zaa hb7 13).trans rfl; clear hb7 hg7)
            | (go_at_call 14; go_must (refine zdw (args' := #[logV (logOf (zak logs x)) A9 c9 A13 c13]) rfl ?_); go_must (refine (zgo (logOf (zak logs x)) A9 c9 A13 c13 w7 (Kd.zci HG9.out (zdz HG7.out)) (Kd.zci HG13.out (zdz HG7.out)) (HF2.out _ (ziy logs x HZ.out c))).mono ?_); rintro e w8 ⟨v8, rfl, ho8, hb8⟩; rw [HGD.out]; have HB8 := Aside0.mk hb8; clear ho8 hb8))
          go_ret2
          refine PutOut.bad ?_ (Cw.bthen (WSt.grown (HJ.out.alloc _) (zbt wr _) (by decide) H6.out.below.size (by have := HJ.out.kept.1; omega) HG7.out).below HB8.out)
          rw [putRpc, if_neg]
          rintro ⟨_, _, h3⟩
          have h4 := List.all_eq_true.1 h3 _ (ziy logs x HZ.out c)
          rw [show logGood (zak logs x) = false from HGD.out] at h4
          exact absurd h4 (by decide)
        · have HGD := Aside0.mk (show (putLog (logOf (zak logs x))).isSome = true from hgd)
          have HLB : Aside0 ((ys6 ++ (logs.take x.toNat).flatMap logItem).length + (logItem (zak logs x)).length < 140737488355328) := ⟨by
            have h1 := item_le0 logs x.toNat (by have := HZ.out; omega)
            rw [show zak logs (x.toNat : Int) = zak logs x from rfl] at h1
            have := HF.out
            have := HYL.out
            simp only [List.length_append]
            omega⟩
          clear hgd
          go_wp2_with (first
            | ((with_reducible refine zbw (t := 38) (p := 7) rfl ?_); go_must (refine Ca.zbq (g := wr.heap.size) (e := 38) (old := #[.int .i64 0, .int .i64 0, .int .i64 0, .string ⟨#[]⟩, .string ⟨#[]⟩, .string ⟨#[]⟩, .string ⟨#[]⟩, .string ⟨#[]⟩, .string ⟨#[]⟩, .slice none 0 0, .int .i64 0, .int .i64 0, .int .i64 0, .slice none 0 0]) rfl rfl 38 (.tmp 7) (.tmp 65) rfl rfl rfl ?hb rfl info38 ?h1 ?_); go_must (case hb => exact zbt wr _); go_must (case h1 => intro q hq; simp at hq; rcases hq with rfl | rfl | rfl | rfl | rfl | rfl | rfl | rfl | rfl | rfl | rfl | rfl | rfl | rfl <;> rfl); intro w7 hb7 hg7; have HB7 := Aside0.mk hb7; have HG7 := Aside0.mk hg7; have u0 := (zaa hb7 0).trans rfl; have u1 := (zaa hb7 1).trans rfl; have u2 := (zaa hb7 2).trans rfl; have u3 := (zaa hb7 3).trans rfl; have u4 := (zaa hb7 4).trans rfl; have u5 := (zaa hb7 5).trans rfl; have u6 := (zaa hb7 6).trans rfl; have u7 := (zaa hb7 7).trans rfl; have u8 := (zaa hb7 8).trans rfl; have u9 := (zaa hb7 9).trans rfl; have u10 := (zaa hb7 10).trans rfl; have u11 := (zaa hb7 11).trans rfl; have u12 := (zaa hb7 12).trans rfl; have u13 := (zaa hb7 13).trans rfl; clear hb7 hg7)
            | (go_at_call 14; go_must (refine zdw (args' := #[logV (logOf (zak logs x)) A9 c9 A13 c13]) rfl ?_); go_must (refine (zgo (logOf (zak logs x)) A9 c9 A13 c13 w7 (Kd.zci HG9.out (zdz HG7.out)) (Kd.zci HG13.out (zdz HG7.out)) (HF2.out _ (ziy logs x HZ.out c))).mono ?_); rintro e w8 ⟨v8, rfl, ho8, hb8⟩; rw [HGD.out]; obtain ⟨A8, k8, rfl, hc8, hr8⟩ := Kd.zft ho8; have s8 := Kd.zgq (P := Try.prog) (src := 27) (dst := 9) (c := k8) Try.underlying27 Try.underlying5 Try.underlying9 hr8; have HB8 := Aside0.mk hb8; clear ho8 hb8 hc8 hr8)
            | (go_at_call 54; go_must (refine (zea w w6 _ P6 w8 _ (strOfNums ((putLog (logOf (zak logs x))).getD [])) (WSt.below' (WSt.grown (HJ.out.alloc _) (zbt wr _) (by decide) H6.out.below.size (by have := HJ.out.kept.1; omega) HG7.out) HB8.out) ?hl).mono ?_); (case hl => rw [show txt (strOfNums ((putLog (logOf (zak logs x))).getD [])) = logItem (zak logs x) from logItem_txt _]; exact HLB.out); rintro e w9 ⟨rfl, h9⟩; have H9 := Aside0.mk h9; clear h9))
          go_roundw
          case rel =>
            have hx0 := HZ.out
            refine ⟨x + 1, rfl, ⟨by omega⟩, ⟨?_⟩, ⟨?_⟩⟩
            · rw [show (x + 1).toNat = x.toNat + 1 by omega]
              exact all_take0 logs x.toNat (by omega) HAL.out (by rw [rd_toNat logs x]; exact HGD.out)
            · rw [show (x + 1).toNat = x.toNat + 1 by omega, item_split0 logs x.toNat (by omega), ← List.append_assoc, rd_toNat logs x, ← logItem_txt]
              exact H9.out
          case measure => have := HZ.out; simp [intOf]; omega
      · have e1 : decide (x < (logs.length : Int)) = false := decide_eq_false c
        have hx := HJ.out.other H6.out HP6.out HX6.out (by decide) (by decide)
        have HXX := Aside0.mk hx
        have b10 := (zaa hx 10).trans rfl
        have b11 := (zaa hx 11).trans rfl
        have b12 := (zaa hx 12).trans rfl
        have hj := HJ.out
        have hal := HAL.out
        rw [List.take_of_length_le (by omega)] at hj hal
        have HJ2 := Aside0.mk hj
        have HAL2 := Aside0.mk hal
        clear hx hj hal
        go_wp2_with (first
          | (go_at_call 53; (with_reducible refine (zgl w w6 (w.heap.size + 1 + 1) P6 wr _ [snapAt, snapTerm, (nodes.length : Int)] _ 3 3 _ HJ2.out ?n0 ?n1 ?n2 ?n3).mono ?_); (case n0 => rfl); (case n1 => rfl); (case n2 => rfl); (case n3 => have := HF.out; have := HYL.out; simp only [zdc, List.length_append, List.length_cons, List.length_nil]; simp only [zdc] at *; omega); rintro e w10 ⟨rfl, h10⟩; have hx10 := h10.other H6.out HP6.out HX6.out (by decide) (by decide); have HX10 := Aside0.mk hx10; have b12' := (zaa hx10 12).trans rfl; have H10 := Aside0.mk h10; clear h10 hx10)
          | (go_at_call 53; (with_reducible refine (zby w w6 (w.heap.size + 1 + 1) P6 w10 _ A2 cap2 nodes H10.out ?m1 ?m2).mono ?_); (case m1 => exact fun W' ys h => Kd.zci HR2.out h.below); (case m2 => have := HF.out; have := HYL.out; simp only [zdc, List.length_append, List.length_cons, List.length_nil]; simp only [zdc] at *; omega); rintro e w11 ⟨rfl, h11⟩; have hx11 := h11.other H6.out HP6.out HX6.out (by decide) (by decide); have b13 := (zaa hx11 13).trans rfl; have H11 := Aside0.mk h11; clear h11 hx11)
          | (go_at_call 54; go_must (refine (zea w w6 _ P6 w11 _ data H11.out ?m3).mono ?_); (case m3 => have := HF.out; have := HYL.out; simp only [zdc, zdh, List.length_append, List.length_cons, List.length_nil]; simp only [zdc] at *; omega); rintro e w12 ⟨rfl, h12⟩; obtain ⟨hb, hk, hg, v, hc, ho⟩ := h12; obtain ⟨A12, m12, k12, e12⟩ := zcp ho; subst e12; have HB12 := Aside0.mk hb; have HO12 := Aside0.mk ho; have hcell12 := (zaa hc 0).trans rfl; clear hb hk hg hc ho))
        go_ret2
        refine PutOut.good (bs := ys6 ++ logs.flatMap logItem ++ nums8 [snapAt, snapTerm, (nodes.length : Int)] ++ nums8 nodes ++ txt data) ?_ (Kd.zbh HO12.out (fun _ _ => trivial)) HB12.out
        rw [putRpc, if_pos ⟨HKD.out.1, HKD.out.2, HAL2.out⟩, encRpc, ← HY6.out, ← HQ.out]
/-- Put, of every message that is not too great. -/
theorem zjc (m : Rpc) (A : Option Addr) (cap : Nat) (A2 : Option Addr) (cap2 : Nat) (w : World) (hA : Kd.C k38 w A m.logs.length m.logs) (hc : m.logs.length ≤ cap) (hA2 : Kd.C (Kd.int .i64) w A2 m.nodes.length m.nodes) (hf : fitsRpc m) :
    Calls Try.prog 28 #[rpcV m A cap A2 cap2] w (PutOut w m) := by
  by_cases h : m.kind < 1 ∨ 6 < m.kind
  · exact Put_low m A cap A2 cap2 w h
  · exact Put_good m A cap A2 cap2 w (by omega) hA hc hA2 hf
end Go.Proofs.Ytjhcbggpbfejgaa.Mp
