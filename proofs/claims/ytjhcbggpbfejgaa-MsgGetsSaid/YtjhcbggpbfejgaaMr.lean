/- The walks of msg's reader. -/
import Derived.Test.YtjhcbggpbfejgaaCk
import Derived.Test.YtjhcbggpbfejgaaMq
import Derived.Deep.QuietTactic
import Derived.Deep.RegionWith
import Derived.Deep.RegionLaw
namespace Go.Proofs.Ytjhcbggpbfejgaa.Mr
open Go.RowKit Go.Proofs.zjt.zjq Go.Proofs.zjt.zjr Go.Proofs.zjt.zjs
open Go.Proofs.Ytjhcbggpbfejgaa.Cp
open Go.Proofs.Ytjhcbggpbfejgaa.Mq
set_option linter.unusedVariables false
set_option linter.unusedSimpArgs false
/-- Too short? -/
abbrev sh (s : St) : Bool := decide (s.2 = 150)
/-- A reader at block g of W: what is left, whether it was too short, whether a thing was bad; the bytes lay there in w0. -/
def RSt (w0 W : World) (g : Nat) (s : St) (bad : Bool) : Prop := ∃ A c, W.heap[g]? = some (.cells #[.slice A s.1.length c, .bool (sh s), .bool bad] 108 (0, 0)) ∧ w0.heap.size ≤ g ∧ Kd.C (Kd.int .u8) w0 A s.1.length s.1 ∧ s.1.length ≤ c ∧ Below w0.heap.size w0 W
/-- What take leaves. -/
def TakeOut (w0 W : World) (g : Nat) (r : List Int × St) (bad : Bool) (e : Ending) (w' : World) : Prop :=
  (∃ A c, e = .returned (.slice A r.1.length c) ∧ Kd.C (Kd.int .u8) w0 A r.1.length r.1 ∧ r.1.length ≤ c) ∧ RSt w0 w' g r.2 bad ∧ KeepBut W w' g none
theorem RSt.fault {w0 W : World} {g : Nat} {s : St} {bad : Bool} (h : RSt w0 W g s bad) : RSt w0 (W.setCell ⟨g, 1, none⟩ (.bool true)) g (s.1, 150) bad := by
  obtain ⟨A, c, hb, hg, hc, hl, hB⟩ := h
  exact ⟨A, c, by simpa [sh] using zdb hb 1 (.bool true), hg, hc, hl, zah hB hg⟩
theorem RSt.setBad {w0 W : World} {g : Nat} {s : St} {bad : Bool} (h : RSt w0 W g s bad) (b : Bool) : RSt w0 (W.setCell ⟨g, 2, none⟩ (.bool b)) g s b := by
  obtain ⟨A, c, hb, hg, hc, hl, hB⟩ := h
  exact ⟨A, c, by simpa using zdb hb 2 (.bool b), hg, hc, hl, zah hB hg⟩
theorem TakeOut.fail {w0 W : World} {g : Nat} {s : St} {bad : Bool} {n : Int} (h : RSt w0 W g s bad) (hf : s.2 = 150 ∨ (s.1.length : Int) < n) : TakeOut w0 W g (take s n) bad (.returned (.slice none 0 0)) (W.setCell ⟨g, 1, none⟩ (.bool true)) := by
  rw [take, if_pos hf]
  exact ⟨⟨none, 0, rfl, Kd.zig _ _, Nat.le_refl _⟩, h.fault, KeepBut.set_ (KeepBut.refl _ _ _) _ _⟩
theorem TakeOut.ok {w0 W : World} {g : Nat} {s : St} {bad : Bool} {n : Int} {A A2 : Option Addr} {c : Nat} (h : RSt w0 W g s bad) (hb : W.heap[g]? = some (.cells #[.slice A s.1.length c, .bool (sh s), .bool bad] 108 (0, 0))) (hc : Kd.C (Kd.int .u8) w0 A s.1.length s.1) (hl : s.1.length ≤ c)
    (h0 : 0 ≤ n) (hf : ¬ (s.2 = 150 ∨ (s.1.length : Int) < n)) (hA : A2 = if c = n.toNat then A else A.map (·.add n.toNat)) {m k c1 : Nat} (hc1 : c1 = c) (hm : m = s.1.length - n.toNat) (hk : k = c - n.toNat) :
    TakeOut w0 W g (take s n) bad (.returned (.slice A n.toNat c1)) (W.setCell ⟨g, 0, none⟩ (.slice A2 m k)) := by
  subst hk hc1
  obtain ⟨_, _, _, hg, _, _, hB⟩ := h
  have hle : n.toNat ≤ s.1.length := by omega
  rw [take, if_neg hf]
  refine ⟨⟨A, c1, ?_, Kd.zjn hc hle, ?_⟩, ⟨A2, c1 - n.toNat, ?_, hg, ?_, ?_, zah hB hg⟩, KeepBut.set_ (KeepBut.refl _ _ _) _ _⟩
  · simp only [List.length_take]; rw [Nat.min_eq_left hle]
  · simp only [List.length_take]; omega
  · have := zdb hb 0 (.slice A2 m (c1 - n.toNat))
    simpa [hm] using this
  · rw [hA]
    have := Kd.zjo (c := c1) hc hle hl
    simpa [Kd.int, Kd.scalar] using this
  · simp only [List.length_drop]; omega
set_option maxHeartbeats 800000 in
set_option maxRecDepth 100000 in
theorem zeb (w0 W : World) (g : Nat) (s : St) (bad : Bool) (n : Int) (h : RSt w0 W g s bad) (h0 : 0 ≤ n) :
    Calls Try.prog 56 #[.pointer (some ⟨g, 0, none⟩), .int .u64 n] W (TakeOut w0 W g (take s n) bad) := by
  have HR := Aside0.mk h
  obtain ⟨xs, ft⟩ := s
  obtain ⟨A, c, hb, hg, hc, hl, hB⟩ := h
  dsimp only [sh] at hb hc hl
  by_cases b1 : ft = 150
  · have e1 : decide (ft = 150) = true := decide_eq_true b1
    rw [e1] at hb
    have c0 := (zaa hb 0).trans rfl
    have c1 := (zaa hb 1).trans rfl
    have f1 := zab hb 1
    clear hb hg hc hB e1
    go_enter Try.func56, Try.ntmps56
    go_wp2
    go_ret
    exact TakeOut.fail HR.out (.inl b1)
  · have e1 : decide (ft = 150) = false := decide_eq_false b1
    have HB := Aside0.mk hb
    rw [e1] at hb
    have HG := Aside0.mk hg
    have HC := Aside0.mk hc
    have HL := Aside0.mk hl
    have c0 := (zaa hb 0).trans rfl
    have c1 := (zaa hb 1).trans rfl
    have f0 := zab hb 0
    have f1 := zab hb 1
    have hm := hc.2.1
    clear hb hg hc hB e1
    by_cases b2 : (xs.length : Int) < n
    · have b1' := Aside0.mk b1
      clear b1
      go_enter Try.func56, Try.ntmps56
      go_wp2
      go_ret
      exact TakeOut.fail HR.out (.inr b2)
    · have b1' := Aside0.mk b1
      clear b1
      go_enter Try.func56, Try.ntmps56
      go_wp2
      all_goals go_ret
      all_goals refine TakeOut.ok HR.out HB.out HC.out HL.out h0 (by rintro (h | h); exact b1'.out h; simp only at h; omega) ?_ ?_ ?_ ?_
      all_goals first | omega | (simp [*]; done) | rfl
theorem RSt.below {w0 W : World} {g : Nat} {s : St} {bad : Bool} (h : RSt w0 W g s bad) : Below w0.heap.size w0 W := by
  obtain ⟨_, _, _, _, _, _, hB⟩ := h
  exact hB
set_option maxHeartbeats 800000 in
set_option maxRecDepth 100000 in
theorem zee (w0 W : World) (g : Nat) (s : St) (bad : Bool) (h : RSt w0 W g s bad) (hs : Bs s.1) :
    Calls Try.prog 59 #[.pointer (some ⟨g, 0, none⟩)] W fun e w' => e = .returned (.int .u64 (raw s).1) ∧ RSt w0 w' g (raw s).2 bad ∧ KeepBut W w' g none := by
  have H := Aside0.mk h
  have hbs := zdl s 8 hs
  have hlen := take_len s 8 (by omega)
  have HBS := Aside0.mk hbs.1
  have HLEN := Aside0.mk hlen
  clear h hs hbs hlen
  go_enter Try.func59, Try.ntmps59
  go_wp2_with (go_at_call 56; (with_reducible refine (zeb w0 _ g s bad 8 H.out (by omega)).mono ?_); rintro e w1 ⟨⟨A, c, rfl, hc, hl⟩, h1, hk⟩; have HC := Aside0.mk hc; have H1 := Aside0.mk h1; have HK := Aside0.mk hk; clear hc h1 hk)
  obtain ⟨ys, hys⟩ : ∃ ys, (take s 8).1 = ys := ⟨_, rfl⟩
  rw [hys] at HC HBS HLEN
  rw [hys]
  have HB1 := Aside0.mk H1.out.below
  go_loopw [3, 9] (fun v i wr => ∃ (x y : Int), i = .int .i64 x ∧ v = .int .u64 y ∧ Aside0 (0 ≤ x ∧ x ≤ ys.length) ∧ Aside0 (y = unum (ys.take x.toNat)) ∧ Aside0 (w1 = wr)) (fun _ i _ => ys.length - (intOf i).toNat)
  case atStart => exact ⟨0, 0, rfl, rfl, ⟨by omega⟩, ⟨rfl⟩, ⟨rfl⟩⟩
  case round =>
    obtain ⟨x, y, rfl, rfl, HX, HY, HW⟩ := hrel
    obtain rfl := HW.out
    clear HW
    obtain ⟨hx0, hx1⟩ := HX.out
    have hlb := HLEN.out
    by_cases cx : x < ys.length
    · have c0 : decide (0 ≤ x) = true := decide_eq_true hx0
      have c1 : decide (x < (ys.length : Int)) = true := decide_eq_true cx
      obtain ⟨ad, e, hcell⟩ := Kd.zfg (Kd.zci HC.out HB1.out) x hx0 cx
      cases e
      have hby := zii ys HBS.out (by omega) x.toNat (by omega)
      have HBY := Aside0.mk hby
      clear hby
      have HRX : 0 ≤ rd ys x ∧ rd ys x < 256 := by
        unfold rd
        rw [List.getD_eq_getElem?_getD, List.getElem?_eq_getElem (by omega)]
        exact HBS.out _ (by simp)
      go_wp2
      go_roundw
      case rel =>
        refine ⟨x + 1, _, rfl, rfl, ⟨by omega⟩, ⟨?_⟩, (by first | exact ⟨rfl⟩ | exact ⟨trivial⟩)⟩
        rw [zgz ys x hx0 cx, ← HY.out]
        have hby := HBY.out
        rw [← HY.out] at hby
        exact or_byte _ _ hby.1 hby.2 HRX.1 HRX.2
      case measure => simp [intOf]; omega
    · have c1 : decide (x < (ys.length : Int)) = false := decide_eq_false cx
      go_wp2
      go_ret
      refine ⟨?_, H1.out, HK.out⟩
      have h2 := HY.out
      rw [List.take_of_length_le (by omega)] at h2
      rw [raw, hys, ← h2]
      rfl
theorem RSt.other {w0 W W1 : World} {g b t : Nat} {s : St} {bad : Bool} {cs : Array Value} (h : RSt w0 W g s bad) (hk : KeepBut W W1 g none) (hb : W.heap[b]? = some (.cells cs t (0, 0))) (ht : t ≠ 108) : W1.heap[b]? = some (.cells cs t (0, 0)) := by
  obtain ⟨A, c, hg, _⟩ := h
  exact hk.blk hb (zih hb hg ht) (by simp)
theorem RSt.ne {w0 W : World} {g b t : Nat} {s : St} {bad : Bool} {cs : Array Value} (h : RSt w0 W g s bad) (hb : W.heap[b]? = some (.cells cs t (0, 0))) (ht : t ≠ 108) : b ≠ g := by
  obtain ⟨A, c, hg, _⟩ := h
  exact zih hb hg ht
theorem RSt.lt {w0 W : World} {g : Nat} {s : St} {bad : Bool} (h : RSt w0 W g s bad) : g < W.heap.size := by
  obtain ⟨A, c, hg, _⟩ := h
  exact zdp hg
theorem RSt.far {w0 W : World} {g b j : Nat} {s : St} {bad : Bool} (h : RSt w0 W g s bad) (hne : g ≠ b) (hb : w0.heap.size ≤ b) (v : Value) : RSt w0 (W.setCell ⟨b, j, none⟩ v) g s bad := by
  obtain ⟨A, c, hg, hge, hc, hl, hB⟩ := h
  exact ⟨A, c, zbi hg hne v, hge, hc, hl, zah hB hb⟩
theorem RSt.alloc {w0 W : World} {g : Nat} {s : St} {bad : Bool} (h : RSt w0 W g s bad) (o : Obj) : RSt w0 (W.alloc o) g s bad := by
  obtain ⟨A, c, hg, hge, hc, hl, hB⟩ := h
  exact ⟨A, c, zaf hg o, hge, hc, hl, zad hB o⟩
theorem RSt.below' {w0 W W1 : World} {g : Nat} {s : St} {bad : Bool} (h : RSt w0 W g s bad) (hB : Below W.heap.size W W1) : RSt w0 W1 g s bad := by
  obtain ⟨A, c, hg, hge, hc, hl, hb⟩ := h
  exact ⟨A, c, zbn hg hB, hge, hc, hl, Cw.bthen hb hB⟩
theorem RSt.parts {w0 W : World} {g : Nat} {s : St} {bad : Bool} (h : RSt w0 W g s bad) : ∃ A c, W.cell? ⟨g, 0, none⟩ = some (.slice A s.1.length c) ∧ W.cell? ⟨g, 1, none⟩ = some (.bool (sh s)) ∧ W.cell? ⟨g, 2, none⟩ = some (.bool bad) ∧ W.frozen? ⟨g, 1, none⟩ = false ∧ W.frozen? ⟨g, 2, none⟩ = false ∧ s.1.length ≤ 9223372036854775807 := by
  obtain ⟨A, c, hb, _, hc, _⟩ := h
  exact ⟨A, c, (zaa hb 0).trans rfl, (zaa hb 1).trans rfl, (zaa hb 2).trans rfl, zab hb 1, zab hb 2, hc.2.1⟩
/-- How many things come. -/
def cntR (s : St) : Int × St := (if (counted s).2 = 150 then 0 else (raw s).1, counted s)
set_option maxHeartbeats 800000 in
set_option maxRecDepth 100000 in
theorem zge (w0 W : World) (g : Nat) (s : St) (bad : Bool) (h : RSt w0 W g s bad) (hs : Bs s.1) (hl : s.1.length ≤ 1099511627776) :
    Calls Try.prog 58 #[.pointer (some ⟨g, 0, none⟩)] W fun e w' => e = .returned (.int .i64 (cntR s).1) ∧ RSt w0 w' g (cntR s).2 bad ∧ KeepBut W w' g none := by
  have H := Aside0.mk h
  have HS := Aside0.mk hs
  have HL := Aside0.mk hl
  have HR := Aside0.mk (zfb s hs)
  have HLE := Aside0.mk (zfe s)
  clear h hs hl
  by_cases cn : ((raw s).2.1.length : Int) < (raw s).1
  · have HCN := Aside0.mk (show counted s = ((raw s).2.1, 150) from if_pos cn)
    have HCNL := Aside0.mk cn
    clear cn
    go_enter Try.func58, Try.ntmps58
    go_wp2_with (go_at_call 59; (with_reducible refine (zee w0 _ g s bad H.out HS.out).mono ?_); rintro e w1 ⟨rfl, h1, hk⟩; have H1 := Aside0.mk h1; have HK := Aside0.mk hk; obtain ⟨A, c, c0, c1, c2, f1, f2, hm⟩ := h1.parts; have cn := HCNL.out; clear h1 hk)
    all_goals go_ret
    all_goals refine ⟨?_, ?_, KeepBut.set_ HK.out 1 _⟩
    all_goals first
      | (simp only [cntR]; rw [HCN.out]; rfl)
      | (simp only [cntR]; rw [HCN.out]; exact H1.out.fault)
  · have HCN := Aside0.mk (show counted s = (raw s).2 from if_neg cn)
    have cn' : ¬ ((raw s).1 > ((raw s).2.1.length : Int)) := cn
    have hw : wrap64 (raw s).1 = (raw s).1 := by have := HR.out; have := HL.out; have := HLE.out; unfold wrap64; omega
    by_cases cb : (raw s).2.2 = 150
    · have HCB := Aside0.mk cb
      have hsh : decide ((raw s).2.2 = 150) = true := decide_eq_true cb
      clear cb
      go_enter Try.func58, Try.ntmps58
      go_wp2_with (go_at_call 59; (with_reducible refine (zee w0 _ g s bad H.out HS.out).mono ?_); rintro e w1 ⟨rfl, h1, hk⟩; have H1 := Aside0.mk h1; have HK := Aside0.mk hk; obtain ⟨A, c, c0, c1, c2, f1, f2, hm⟩ := h1.parts; simp only [sh] at c1; rw [hsh] at c1; clear h1 hk)
      all_goals go_ret
      all_goals (refine ⟨?_, ?_, HK.out⟩)
      all_goals first
        | (simp only [cntR]; rw [HCN.out, if_pos HCB.out]; rfl)
        | (simp only [cntR]; rw [HCN.out]; exact H1.out)
    · have HCB := Aside0.mk cb
      have hsh : decide ((raw s).2.2 = 150) = false := decide_eq_false cb
      clear cb
      go_enter Try.func58, Try.ntmps58
      go_wp2_with (go_at_call 59; (with_reducible refine (zee w0 _ g s bad H.out HS.out).mono ?_); rintro e w1 ⟨rfl, h1, hk⟩; have H1 := Aside0.mk h1; have HK := Aside0.mk hk; obtain ⟨A, c, c0, c1, c2, f1, f2, hm⟩ := h1.parts; simp only [sh] at c1; rw [hsh] at c1; clear h1 hk)
      all_goals go_ret
      all_goals (refine ⟨?_, ?_, HK.out⟩)
      all_goals first
        | (simp only [cntR]; rw [HCN.out, if_neg HCB.out]; first | rfl | (rw [hw]; rfl) | (simp [hw]; done) | (conv => rhs; rw [← hw]))
        | (simp only [cntR]; rw [HCN.out]; exact H1.out)
/-- So many numbers. -/
def numsR : Nat → St → List Int × St
  | 0, s => ([], s)
  | k + 1, s => ((numR s).1 :: (numsR k (numR s).2).1, (numsR k (numR s).2).2)
theorem zdr (k : Nat) : ∀ s : St, Bs s.1 → Bs (numsR k s).2.1 := by
  induction k with
  | zero => exact fun s h => h
  | succ k ih => exact fun s h => ih _ (zcw s h)
theorem zdu (k : Nat) : ∀ s : St, (numsR k s).2.1.length ≤ s.1.length := by
  induction k with
  | zero => exact fun s => Nat.le_refl _
  | succ k ih => exact fun s => Nat.le_trans (ih _) (zfe s)
/-- Numbers laid into cells. -/
def putAll : List Nat → List Int → Array Value → Array Value
  | o :: os, n :: ns, cs => putAll os ns (cs.setIfInBounds o (.int .i64 n))
  | _, _, cs => cs
set_option maxHeartbeats 1600000 in
set_option maxRecDepth 100000 in
theorem zfr (w0 W : World) (g : Nat) (s : St) (bad : Bool) (b C ct n cap : Nat) (offs : List Nat) (cs ps : Array Value) (h : RSt w0 W g s bad) (hs : Bs s.1) (hn : n = offs.length) (hps : ps = (offs.map fun o => Value.pointer (some ⟨C, o, none⟩)).toArray)
    (hp : W.heap[b]? = some (.cells ps 75 (0, 0))) (hc : W.heap[C]? = some (.cells cs ct (0, 0))) (ht : ct ≠ 108 ∧ ct ≠ 75) (ho : ∀ o ∈ offs, o < cs.size) (hC : w0.heap.size ≤ C) (hl : offs.length < 1099511627776) :
    Calls Try.prog 57 #[.pointer (some ⟨g, 0, none⟩), .slice (some ⟨b, 0, none⟩) n cap] W fun e w' => e = .returned (.tuple #[]) ∧ RSt w0 w' g (numsR offs.length s).2 bad ∧ w'.heap[C]? = some (.cells (putAll offs (numsR offs.length s).1 cs) ct (0, 0)) ∧ KeepBut W w' g (some C) := by
  subst hn hps
  have H := Aside0.mk h
  have HS := Aside0.mk hs
  have HL := Aside0.mk hl
  have HP := Aside0.mk hp
  have HC := Aside0.mk hc
  have HO := Aside0.mk ho
  have hbC : b ≠ C := zih hp hc (fun e => ht.2 e.symm)
  have hbg : b ≠ g := h.ne hp (by decide)
  have hCg : C ≠ g := h.ne hc ht.1
  have HNE := Aside0.mk (And.intro hbC (And.intro hbg hCg))
  clear h hs hl hp hc ho hbC hbg hCg
  go_enter Try.func57, Try.ntmps57
  go_wp2
  go_loopw [8] (fun i wr => ∃ (x : Int) (t : St) (cur : Array Value), i = .int .i64 x ∧ Aside0 (0 ≤ x ∧ x ≤ offs.length) ∧ Aside0 (RSt w0 wr g t bad) ∧ Aside0 (Bs t.1) ∧ Aside0 (wr.heap[C]? = some (.cells cur ct (0, 0)) ∧ cur.size = cs.size) ∧ Aside0 (putAll (offs.drop x.toNat) (numsR (offs.length - x.toNat) t).1 cur = putAll offs (numsR offs.length s).1 cs ∧ (numsR (offs.length - x.toNat) t).2 = (numsR offs.length s).2) ∧ Aside0 (KeepBut W wr g (some C))) (fun i _ => offs.length - (intOf i).toNat)
  case atStart => exact ⟨0, s, cs, rfl, ⟨by omega⟩, H, HS, ⟨HC.out, rfl⟩, ⟨by simp⟩, ⟨KeepBut.refl _ _ _⟩⟩
  case round =>
    obtain ⟨x, t, cur, rfl, HX, HT, HB, HCU, HM, HK⟩ := hrel
    obtain ⟨hx0, hx1⟩ := HX.out
    have hln := HL.out
    by_cases c : x < offs.length
    · have e0 : decide (0 ≤ x) = true := decide_eq_true hx0
      have e1 : decide (x < (offs.length : Int)) = true := decide_eq_true c
      have hxn : x.toNat < offs.length := by omega
      have hb := HK.out.blk HP.out HNE.out.2.1 (by have := HNE.out.1; simpa using this)
      have hcell : wr.cell? ((⟨b, 0, none⟩ : Addr).add x.toNat) = some (.pointer (some ⟨C, offs[x.toNat], none⟩)) := by
        rw [add_plain, cell_of_row wr b x.toNat _ _ _ hb]
        simp [hxn]
      rw [add_plain] at hcell
      have hoc := HO.out _ (List.getElem_mem hxn)
      obtain ⟨o, ho⟩ : ∃ o, offs[x.toNat] = o := ⟨_, rfl⟩
      rw [ho] at hcell hoc
      have HOQ := Aside0.mk ho
      clear ho hb
      go_wp2_with (go_at_call 59; (with_reducible refine (zee w0 _ g t bad HT.out HB.out).mono ?_); rintro e w5 ⟨rfl, h5, hk5⟩; have hc5 := HT.out.other hk5 HCU.out.1 ht.1; have cc5 : w5.cell? ⟨C, o, none⟩ = some (cur[o]'(by have := HCU.out.2; omega)) := (zaa hc5 o).trans (Array.getElem?_eq_getElem (by have := HCU.out.2; omega)); have ff5 := zab hc5 o; have H5 := Aside0.mk h5; have HC5 := Aside0.mk hc5; have HK5 := Aside0.mk hk5; clear h5 hk5 hc5)
      go_roundw
      case rel =>
        have hm := HM.out
        have hne := HNE.out
        refine ⟨x + 1, (numR t).2, cur.setIfInBounds o (.int .i64 (numR t).1), rfl, ⟨by omega⟩, ⟨H5.out.far (by omega) hC _⟩, ⟨zcw _ HB.out⟩, ⟨zdb HC5.out o _, by simpa using HCU.out.2⟩, ⟨?_⟩, ⟨?_⟩⟩
        · rw [show offs.length - x.toNat = (offs.length - (x + 1).toNat) + 1 by omega, List.drop_eq_getElem_cons hxn, HOQ.out] at hm
          rw [show (x + 1).toNat = x.toNat + 1 by omega]
          rw [show (x + 1).toNat = x.toNat + 1 by omega] at hm
          exact hm
        · have k1 := HK.out
          have k5 := HK5.out
          refine ⟨by have := k1.1; have := k5.1; simp; omega, fun i hi h1 h2 => ?_⟩
          rw [Below.heap_setCell w5 ⟨C, o, none⟩ _ i (by simpa using h2)]
          exact (k5.2 i (by have := k1.1; omega) h1 (by simp)).trans (k1.2 i hi h1 h2)
      case measure => simp [intOf]; omega
    · have e1 : decide (x < (offs.length : Int)) = false := decide_eq_false c
      go_wp2
      go_end0
      have hm := HM.out
      rw [show offs.length - x.toNat = 0 by omega, List.drop_eq_nil_of_le (by omega)] at hm
      have e2 : cur = putAll offs (numsR offs.length s).1 cs := by simpa [putAll] using hm.1
      have e3 : t = (numsR offs.length s).2 := by simpa [numsR] using hm.2
      rw [← e2, ← e3]
      exact ⟨rfl, HT.out, HCU.out.1, HK.out⟩
end Go.Proofs.Ytjhcbggpbfejgaa.Mr
