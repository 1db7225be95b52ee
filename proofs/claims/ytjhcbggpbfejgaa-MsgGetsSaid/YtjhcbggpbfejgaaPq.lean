/- The walk of the law MsgGets, by hand. -/
import Derived.Test.YtjhcbggpbfejgaaPp
import Derived.Test.YtjhcbggpbfejgaaPl
import Derived.Test.YtjhcbggpbfejgaaMf
import Derived.Deep.QuietTactic
import Derived.Deep.RegionWith
import Derived.Deep.RegionLaw
namespace Go.Proofs.Ytjhcbggpbfejgaa.Pq
open Go.RowKit Go.Proofs.zjt.zjq Go.Proofs.zjt.zjr Go.Proofs.zjt.zjs
open Go.Proofs.Ytjhcbggpbfejgaa.Cp Go.Proofs.Ytjhcbggpbfejgaa.Mk Go.Proofs.Ytjhcbggpbfejgaa.Mq Go.Proofs.Ytjhcbggpbfejgaa.Ms
open Go.Proofs.Ytjhcbggpbfejgaa.Cw (bthen info5)
open Go.Proofs.Ytjhcbggpbfejgaa.Mg (zeroC info66 GetOut)
open Go.Proofs.Ytjhcbggpbfejgaa.XMsgPuts (refRpc refOk)
set_option linter.unusedVariables false
set_option linter.unusedSimpArgs false
abbrev rpcD (m : Rpc) (A : Option Addr) (cap : Nat) (A2 : Option Addr) (cap2 : Nat) : Array Value := #[.int .i64 m.kind, .int .i64 m.src, .int .i64 m.dst, .int .i64 m.term, .int .i64 m.at_, .int .i64 m.logTerm, .bool m.ok, .int .i64 m.commit, .int .i64 m.read, .slice A m.logs.length cap, .int .i64 m.snapAt, .int .i64 m.snapTerm, .slice A2 m.nodes.length cap2, .string m.data]
theorem below_new' {W W1 : World} {o : Obj} (h : (W.alloc o).grownBy W1 (some W.heap.size)) : Below W.heap.size W W1 :=
  (zad (Below.refl _ _) o).grown h (by simp) (fun k hk => by injection hk with hk; omega)
theorem emptyRow {w : World} {base : Nat} (hs : base ≤ w.heap.size) : Kd.R (Kd.int .u8) 5 (w.alloc (.cells #[] 5)) base (fun _ => True) (.slice (some ⟨w.heap.size, 0, none⟩) 0 0) [] :=
  Kd.zey (h1 := fun _ => rfl) (World.ownsRow_made (base := base) (e := 5) (size := 1) w #[] 0 hs (by simp [maxLen]) rfl) (fun _ _ => trivial)
def RX {α : Type} (d : Kd α) (e : TypeId) (W : World) (v : Value) (l : List α) : Prop := ∃ base, Kd.R d e W base (fun _ => True) v l
theorem RX.below {α : Type} {d : Kd α} {e : TypeId} {W W1 : World} {v : Value} {l : List α} (h : RX d e W v l) (hb : Below W.heap.size W W1) : RX d e W1 v l := h.imp fun _ h => Kd.zcq h hb
theorem RX.over {α : Type} {d : Kd α} {e : TypeId} {W W1 : World} {v u : Value} {l : List α} {base : Nat} {ys : List Int} (h : RX d e W v l) (ho : Kd.R (Kd.int .u8) 5 W base (fun _ => True) u ys) (ht : ∀ q, q ∈ e :: d.E → q ≠ 5) (hg : W.grownBy W1 u.ownBlock) : RX d e W1 v l := h.imp fun _ h => Kd.R_over' h (Kd.zjb ho) ht hg
theorem RX.c {α : Type} {d : Kd α} {e : TypeId} {W : World} {A : Option Addr} {n c : Nat} {l : List α} (h : RX d e W (.slice A n c) l) : Kd.C d W A l.length l := (Kd.zed h.choose_spec).2.2
theorem RX.le {α : Type} {d : Kd α} {e : TypeId} {W : World} {A : Option Addr} {c : Nat} {l : List α} (h : RX d e W (.slice A l.length c) l) : l.length ≤ c := (Kd.zed h.choose_spec).2.1
theorem RX.conv {W : World} {v : Value} {l : List Int} (h : RX (Kd.int .u8) 5 W v l) : (convert 27 9 v).run Try.prog W = .ok (.string (strOfNums l)) W := own_string (P := Try.prog) Try.underlying27 Try.underlying5 Try.underlying9 (Kd.zeh h.choose_spec)
/-- A message that was read, and where it lies. -/
structure Kept (w : World) (b : Nat) (m : Rpc) (A : Option Addr) (cap : Nat) (A2 : Option Addr) (cap2 : Nat) (W : World) : Prop where
  n1 : RX k38 38 W (.slice A m.logs.length cap) m.logs
  n2 : RX (Kd.int .i64) 3 W (.slice A2 m.nodes.length cap2) m.nodes
  x : W.heap[b]? = some (.cells (rpcD m A cap A2 cap2) 66 (0, 0))
  b : Below w.heap.size w W
theorem Kept.below {w W W1 : World} {b : Nat} {m : Rpc} {A A2 : Option Addr} {cap cap2 : Nat} (h : Kept w b m A cap A2 cap2 W) (hb : Below W.heap.size W W1) : Kept w b m A cap A2 cap2 W1 := ⟨h.n1.below hb, h.n2.below hb, zbn h.x hb, bthen h.b hb⟩
theorem Kept.put {w W : World} {b : Nat} {m : Rpc} {A A2 : Option Addr} {cap cap2 : Nat} {g n co : Nat} {ys : List Int} (h : Kept w b m A cap A2 cap2 W) (ho : Kd.R (Kd.int .u8) 5 W w.heap.size (fun _ => True) (.slice (some ⟨g, 0, none⟩) n co) ys) (hgw : w.heap.size ≤ g) (i x : Int) :
    Kept w b m A cap A2 cap2 (W.setCell ⟨g, i.toNat, none⟩ (.int .u8 x)) := by
  have hg := (Kd.R_putg ho i x).2
  obtain ⟨cells, hc⟩ := Kd.zjb ho g rfl
  exact ⟨h.n1.over ho (by decide) hg, h.n2.over ho (by decide) hg, zbi h.x (p := ⟨g, i.toNat, none⟩) (zih h.x hc (by decide)) _, zah h.b hgw⟩
set_option maxRecDepth 100000 in
theorem gets_long (xs : List Int) (A0 : Option Addr) (c0 : Nat) (w : World) (hl : 50000 < xs.length) (hr0 : Kd.C (Kd.int .u8) w A0 xs.length xs) :
    Calls Try.prog 8 #[.slice A0 xs.length c0] w fun e w' => e = .returned (.bool true) ∧ Below w.heap.size w w' := by
  have hm := hr0.2.1
  have d1 : decide (50000 < (xs.length : Int)) = true := decide_eq_true (by omega)
  have d2 : decide (50000 < xs.length) = true := decide_eq_true (by omega)
  clear hr0 hl
  go_enter Try.func8, Try.ntmps8
  go_wp2_with (go_at_call 26; go_must (refine (Mf.zie _).mono ?_); rintro e w1 ⟨rfl, hb1⟩; have HB1 := Aside0.mk hb1; clear hb1)
  go_ret
  exact ⟨rfl, HB1.out⟩
set_option maxHeartbeats 4000000 in
set_option maxRecDepth 100000 in
theorem gets_short (xs : List Int) (A0 : Option Addr) (c0 : Nat) (w : World) (hl : xs.length ≤ 50000) (hr0 : Kd.C (Kd.int .u8) w A0 xs.length xs) (hc0 : xs.length ≤ c0) (hb : Bs xs) :
    Calls Try.prog 8 #[.slice A0 xs.length c0] w fun e w' => e = .returned (.bool true) ∧ Below w.heap.size w w' := by
  have HR := Aside0.mk hr0
  have HC := Aside0.mk hc0
  have HBS := Aside0.mk hb
  have d1 : decide (50000 < (xs.length : Int)) = false := decide_eq_false (by omega)
  have d2 : decide (50000 < xs.length) = false := decide_eq_false (by omega)
  obtain ⟨G, hG⟩ : ∃ G, getRpc xs = G := ⟨_, rfl⟩
  have HGG := Aside0.mk hG
  have HGI := Aside0.mk (Pl.getRpc_in xs hb hl)
  rw [hG] at HGI
  have HGW : Aside0 (G.2 = 0 → refRpc G.1 = xs ∧ (1 ≤ G.1.kind ∧ G.1.kind ≤ 6) ∧ G.1.logs.all refOk = true) := ⟨fun h => by
    rw [← hG] at h ⊢
    unfold getRpc at h ⊢
    by_cases c : gErr xs = 0
    · rw [if_pos c]
      exact Pl.getRpc_whole xs hb hl c
    · rw [if_neg c] at h
      exact absurd h c⟩
  clear hr0 hc0 hb hG
  go_enter Try.func8, Try.ntmps8
  go_upto_block 0 with (first
    | (go_at_call 26; go_must (refine (Mf.zie _).mono ?_); rintro e w1 ⟨rfl, hb1⟩; have HB1 := Aside0.mk hb1; clear hb1)
    | ((with_reducible refine zcd (b := .append) (xs := #[.tmp 18, .tmp 19]) rfl ?_); at_builtin; go_must (refine Kd.R_append_row (Value.int .u8) 0 (h1 := fun _ => rfl) (w0 := w) w.heap.size rfl (.tmp 18) (.tmp 19) 27 5 (.int .u8 0) 1 rfl Try.underlying27 info5 rfl (by omega) (.slice (some ⟨w1.heap.size, 0, none⟩) 0 0) [] xs A0 xs.length c0 (fun _ => True) rfl rfl (fun _ _ => trivial) ?aO ?aR ?aB ?aS ?aL ?_); go_must (case aO => exact emptyRow HB1.out.size); go_must (case aR => exact Kd.zci HR.out (bthen HB1.out (zad (Below.refl _ _) _))); go_must (case aB => exact zad HB1.out _); go_must (case aS => exact (zad HB1.out _).size); go_must (case aL => simp; omega); intro v2 w2 ho2 hb2 hg2 _; rw [List.nil_append] at ho2; obtain ⟨Ao, co, rfl, hco, hro⟩ := Kd.zft ho2; have HO2 := Aside0.mk ho2; have HRO := Aside0.mk hro; have HCO := Aside0.mk hco; have HB2 := Aside0.mk hb2; clear ho2 hb2 hg2 hro hco)
    | (go_at_call 30; go_must (refine (show Calls Try.prog 30 #[.slice Ao xs.length co] w2 (GetOut w2 G) from HGG.out ▸ Mg.zjd xs Ao co w2 HRO.out HCO.out HBS.out (by omega)).mono ?_); rintro e w3 ⟨A3, k3, A4, k4, rfl, ho3, ho4, hb3⟩; have HO3 := Aside0.mk ho3; have HO4 := Aside0.mk ho4; have HB3 := Aside0.mk hb3; clear ho3 ho4 hb3)
    | ((with_reducible refine zbw (t := 66) (p := 4) rfl ?_); go_must (refine Ca.zbq (g := w3.heap.size) (e := 66) (old := zeroC) (cs := rpcD G.1 A3 k3 A4 k4) rfl rfl 66 (.tmp 4) (.tmp 24) rfl rfl rfl ?hb rfl info66 ?h1 ?_); go_must (case hb => exact zbt w3 _); go_must (case h1 => exact fun q hq => List.all_eq_true.1 (show (rpcD G.1 A3 k3 A4 k4).toList.all (fun q => q.oneCell') = true from rfl) q hq); intro w4 hb4 hg4; have HX4 := Aside0.mk hb4; have HK4 := Aside0.mk (below_new' hg4); clear hb4 hg4))
  have B28 := Aside0.mk (bthen HB3.out HK4.out)
  have HKP := Aside0.mk (show Kept w w3.heap.size G.1 A3 k3 A4 k4 w4 from ⟨⟨_, Kd.zcq HO3.out HK4.out⟩, ⟨_, Kd.zcq HO4.out HK4.out⟩, HX4.out, bthen HB2.out B28.out⟩)
  have HOW := Aside0.mk (Kd.zcq HO2.out B28.out)
  clear HO3 HO4 HX4 HO2
  go_cut [] (fun wc => ∃ W, W = wc ∧ Aside0 (Kept w w3.heap.size G.1 A3 k3 A4 k4 W))
  case first =>
    go_wp2_with fail
    go_loopw [28] (fun i wr => ∃ (x : Int) (ys : List Int), i = .int .i64 x ∧ Aside0 (0 ≤ x ∧ x ≤ xs.length) ∧ Aside0 (Kd.R (Kd.int .u8) 5 wr w.heap.size (fun _ => True) (.slice Ao xs.length co) ys ∧ ys.length = xs.length) ∧ Aside0 (Kept w w3.heap.size G.1 A3 k3 A4 k4 wr)) (fun i _ => xs.length - (intOf i).toNat)
    case atStart => exact ⟨0, xs, rfl, ⟨by omega⟩, ⟨HOW.out, rfl⟩, HKP⟩
    case round =>
      obtain ⟨x, ys, rfl, HX, HY, HKR⟩ := hrel
      obtain ⟨hx0, hx1⟩ := HX.out
      by_cases c : x < xs.length
      · have e0 : decide (0 ≤ x) = true := decide_eq_true hx0
        have e1 : decide (x < (xs.length : Int)) = true := decide_eq_true c
        obtain ⟨g, cp, eo, gb, gl, cl⟩ := Kd.R_form HY.out.1 (by have := HY.out.2; omega)
        injection eo with ea en ec
        subst ea
        obtain ⟨hcl, hfz⟩ := Kd.R_celln 0 HY.out.1 x hx0 c
        have GB := Aside0.mk gb
        clear en ec gb gl cl
        go_wp2_with fail
        go_roundw
        case rel => exact ⟨x + 1, _, rfl, ⟨by omega⟩, ⟨(Kd.R_putg HY.out.1 x _).1, by rw [List.length_set]; exact HY.out.2⟩, ⟨Kept.put HKR.out HY.out.1 GB.out x _⟩⟩
        case measure => simp [intOf]; omega
      · have e1 : decide (x < (xs.length : Int)) = false := decide_eq_false c
        go_wp2_with fail
        go_meet
        exact ⟨_, rfl, HKR⟩
  case rest =>
    obtain ⟨W, hW, HKP2⟩ := hcut
    subst hW
    go_wp2_with fail
    refine (show Calls Try.prog 31 #[.slice A0 xs.length c0] W (GetOut W G) from HGG.out ▸ Pp.Parse_any xs A0 c0 W (Kd.zci HR.out HKP2.out.b) HC.out HBS.out hl).mono ?_
    rintro e w5 ⟨A5, k5, A6, k6, rfl, ho5, ho6, hb5⟩
    have HO5 := Aside0.mk ho5
    have HO6 := Aside0.mk ho6
    have HB5 := Aside0.mk hb5
    clear ho5 ho6 hb5
    have hbf := XMsgPuts.bytes_f 50000 G.1 HGI.out.1 (by have := HGI.out.2.2; omega) (by have := HGI.out.2.1; omega)
    obtain ⟨q, hq⟩ : ∃ q, (decide (1 ≤ G.1.kind ∧ G.1.kind ≤ 6) && G.1.logs.all refOk) = q := ⟨_, rfl⟩
    rw [hq] at hbf
    have HBF := Aside0.mk hbf
    have HQ := Aside0.mk hq
    clear hbf hq
    go_wp2_with ((with_reducible refine zbw (t := 66) (p := 7) rfl ?_); go_must (refine Ca.zbq (g := w5.heap.size) (e := 66) (old := zeroC) (cs := rpcD G.1 A5 k5 A6 k6) rfl rfl 66 (.tmp 7) (.tmp 41) rfl rfl rfl ?hb rfl info66 ?h1 ?_); go_must (case hb => exact zbt w5 _); go_must (case h1 => exact fun q hq => List.all_eq_true.1 (show (rpcD G.1 A5 k5 A6 k6).toList.all (fun q => q.oneCell') = true from rfl) q hq); intro w6 hb6 hg6; have HX6 := Aside0.mk hb6; have HK6 := Aside0.mk (below_new' hg6); clear hb6 hg6; have HKP6 := Aside0.mk (HKP2.out.below (bthen HB5.out HK6.out)); have HKQ6 := Aside0.mk (show Kept w w5.heap.size G.1 A5 k5 A6 k6 w6 from ⟨⟨_, Kd.zcq HO5.out HK6.out⟩, ⟨_, Kd.zcq HO6.out HK6.out⟩, HX6.out, bthen HKP2.out.b (bthen HB5.out HK6.out)⟩); have hz4 := HKP6.out.x; have l0 := (zaa hz4 0).trans rfl; have l1 := (zaa hz4 1).trans rfl; have l2 := (zaa hz4 2).trans rfl; have l3 := (zaa hz4 3).trans rfl; have l4 := (zaa hz4 4).trans rfl; have l5 := (zaa hz4 5).trans rfl; have l6 := (zaa hz4 6).trans rfl; have l7 := (zaa hz4 7).trans rfl; have l8 := (zaa hz4 8).trans rfl; have l9 := (zaa hz4 9).trans rfl; have l10 := (zaa hz4 10).trans rfl; have l11 := (zaa hz4 11).trans rfl; have l12 := (zaa hz4 12).trans rfl; have l13 := (zaa hz4 13).trans rfl; clear hz4)
    go_wp2_with fail
    refine (XMsgPuts.zam.calls _ G.1.kind G.1.src G.1.dst G.1.term G.1.at_ G.1.logTerm G.1.ok G.1.commit G.1.read A3 k3 G.1.logs G.1.snapAt G.1.snapTerm A4 k4 G.1.nodes G.1.data (refRpc G.1) q w6 (RX.c HKP6.out.n1) (RX.le HKP6.out.n1) (RX.c HKP6.out.n2) (RX.le HKP6.out.n2) HBF.out).mono ?_
    rintro e w7 ⟨v7, rfl, ho, hb⟩
    have HV7 := Aside0.mk (show RX (Kd.int .u8) 5 w7 v7 (refRpc G.1) from ⟨_, ho⟩)
    have HKQ7 := Aside0.mk (HKQ6.out.below hb)
    clear ho hb
    clear l0 l1 l2 l3 l4 l5 l6 l7 l8 l9 l10 l11 l12 l13
    have hz7 := HKQ7.out.x
    have m0 := (zaa hz7 0).trans rfl
    have m1 := (zaa hz7 1).trans rfl
    have m2 := (zaa hz7 2).trans rfl
    have m3 := (zaa hz7 3).trans rfl
    have m4 := (zaa hz7 4).trans rfl
    have m5 := (zaa hz7 5).trans rfl
    have m6 := (zaa hz7 6).trans rfl
    have m7 := (zaa hz7 7).trans rfl
    have m8 := (zaa hz7 8).trans rfl
    have m9 := (zaa hz7 9).trans rfl
    have m10 := (zaa hz7 10).trans rfl
    have m11 := (zaa hz7 11).trans rfl
    have m12 := (zaa hz7 12).trans rfl
    have m13 := (zaa hz7 13).trans rfl
    clear hz7
    go_wp2_with fail
    refine (XMsgPuts.zam.calls _ G.1.kind G.1.src G.1.dst G.1.term G.1.at_ G.1.logTerm G.1.ok G.1.commit G.1.read A5 k5 G.1.logs G.1.snapAt G.1.snapTerm A6 k6 G.1.nodes G.1.data (refRpc G.1) q w7 (RX.c HKQ7.out.n1) (RX.le HKQ7.out.n1) (RX.c HKQ7.out.n2) (RX.le HKQ7.out.n2) HBF.out).mono ?_
    rintro e w8 ⟨v8, rfl, ho, hb⟩
    have HKQ8 := Aside0.mk (HKQ7.out.below hb)
    have cv1 := RX.conv (HV7.out.below hb)
    have cv2 := RX.conv (W := w8) (v := v8) (l := refRpc G.1) ⟨_, ho⟩
    have cv3 := Kd.zgq (P := Try.prog) (A := A0) (n := xs.length) (c := c0) (xs := xs) Try.underlying27 Try.underlying5 Try.underlying9 (Kd.zci HR.out HKQ8.out.b)
    clear ho hb
    clear m0 m1 m2 m3 m4 m5 m6 m7 m8 m9 m10 m11 m12 m13
    by_cases h0 : G.2 = 0
    · obtain ⟨hw1, hw2, hw3⟩ := HGW.out h0
      have hq : q = true := by rw [← HQ.out, hw3]; simp [hw2.1, hw2.2]
      subst hq
      rw [hw1] at cv1 cv2
      have bl : (G.2 != 0) = false := by simp [h0]
      have be : (G.2 == 0) = true := by simp [h0]
      clear hw1 hw2 hw3 h0
      go_wp2_with fail
      go_ret
      exact ⟨rfl, HKQ8.out.b⟩
    · have bl : (G.2 != 0) = true := by simp [h0]
      clear h0 cv3
      go_wp2_with fail
      go_ret
      exact ⟨rfl, HKQ8.out.b⟩
theorem gets_any (xs : List Int) (A0 : Option Addr) (c0 : Nat) (w : World) (hr0 : Kd.C (Kd.int .u8) w A0 xs.length xs) (hc0 : xs.length ≤ c0) (hb : Bs xs) :
    Calls Try.prog 8 #[.slice A0 xs.length c0] w fun e w' => e = .returned (.bool true) ∧ Below w.heap.size w w' := by
  by_cases hl : xs.length ≤ 50000
  · exact gets_short xs A0 c0 w hl hr0 hc0 hb
  · exact gets_long xs A0 c0 w (by omega) hr0
end Go.Proofs.Ytjhcbggpbfejgaa.Pq
