/- The walk of the law MsgApart. -/
import Derived.Test.YtjhcbggpbfejgaaMx
import Derived.Deep.QuietTactic
import Derived.Deep.RegionWith
import Derived.Deep.RegionLaw
namespace Go.Proofs.Ytjhcbggpbfejgaa.Ma
open Go.RowKit Go.Proofs.YtjhcbggpbfejgaaW.PrintWords Go.Proofs.YtjhcbggpbfejgaaW.PrintLast Go.Proofs.YtjhcbggpbfejgaaW.PrintMore
open Go.Proofs.Ytjhcbggpbfejgaa.Cp
open Go.Proofs.Ytjhcbggpbfejgaa.Mk
open Go.Proofs.Ytjhcbggpbfejgaa.Mq
open Go.Proofs.Ytjhcbggpbfejgaa.Ms
open Go.Proofs.Ytjhcbggpbfejgaa.Mz
open Go.Proofs.Ytjhcbggpbfejgaa.Mf
open Go.Proofs.Ytjhcbggpbfejgaa.Mx
open Go.Proofs.Ytjhcbggpbfejgaa.Mp (rpcV rpcC Put_any PutOut)
open Go.Proofs.Ytjhcbggpbfejgaa.Mg (Get_any GetOut info66)
open Go.Proofs.Ytjhcbggpbfejgaa.Cw (shape_of bthen info5)
open Go.Proofs.Ytjhcbggpbfejgaa.XMsgPuts (calepinlaw22_small.calls calepinlaw22_small.f small_f calepinref22_Bytes.calls calepinref22_Bytes.f bytes_f getRpc_enc refRpc items_ref all_ref ref_len)
set_option linter.unusedVariables false
set_option linter.unusedSimpArgs false

theorem bytes_good (k : Nat) (m : Rpc) (h : ROk m) (hp : putRpc m = some (encRpc m)) (hx : ∀ x ∈ m.logs, x.f2.f7.length ≤ k ∧ x.f3.length ≤ k) (hl : (refRpc m).length < 1099511627776) :
    calepinref22_Bytes.f (k + 32 + m.nodes.length + m.logs.length) m.kind m.src m.dst m.term m.at_ m.logTerm m.ok m.commit m.read m.logs m.snapAt m.snapTerm m.nodes m.data = some (encRpc m, true) := by
  obtain ⟨_, h2, h3, h4⟩ := Mc.put_enc hp
  have hi := item_ge m.logs
  have hen := enc_len' m
  have hlen := h.len
  have hbf := bytes_f k m (fun x hm => ⟨h.logs x hm, hx x hm⟩) hl (by omega)
  have hr : refRpc m = encRpc m := by
    unfold refRpc encRpc
    rw [items_ref m.logs (by rw [← all_ref]; exact h2), show m.kind % 256 = m.kind by omega]
  rw [hbf, hr, ← all_ref, h2]
  simp [h3, h4]
def ps9 (C : Nat) : Array Value := (offs.map fun o => Value.pointer (some ⟨C, o, none⟩)).toArray

set_option maxHeartbeats 1600000 in
set_option maxRecDepth 100000 in
/-- Too great, or nothing turned. -/
theorem apart_big (m : Rpc) (A : Option Addr) (cap : Nat) (A2 : Option Addr) (cap2 : Nat) (which turn : Int) (w : World) (hA : Kd.C k38 w A m.logs.length m.logs) (hc : m.logs.length ≤ cap) (hA2 : Kd.C (Kd.int .i64) w A2 m.nodes.length m.nodes) (hc2 : m.nodes.length ≤ cap2) (ks : Nat) (hsm : calepinlaw22_small.f ks m.kind m.src m.dst m.term m.at_ m.logTerm m.ok m.commit m.read m.logs m.snapAt m.snapTerm m.nodes m.data = some false) :
    Calls Try.prog 10 #[rpcV m A cap A2 cap2, .int .i64 which, .int .i64 turn] w fun e w' => e = .returned (.bool true) ∧ Below w.heap.size w w' := by
  have HR := Aside0.mk hA
  have HRC := Aside0.mk hc
  have HR2 := Aside0.mk hA2
  have HRC2 := Aside0.mk hc2
  have hm1 := hA.2.1
  have hm2 := hA2.2.1
  have HX := Aside0.mk (blk_new w (.cells (rpcC m A cap A2 cap2) 66))
  have HSM := Aside0.mk hsm
  clear hA hc hA2 hc2 hsm
  go_enter Try.func10, Try.ntmps10
  go_wp2_with (first
    | (go_at_call 26; go_must (refine (first_any _).mono ?_); rintro e w1 ⟨rfl, hb1⟩; have hx1 := blk_below HX.out hb1; have HX1 := Aside0.mk hx1; have c0 := (blk_cell hx1 0).trans rfl; have c1 := (blk_cell hx1 1).trans rfl; have c2 := (blk_cell hx1 2).trans rfl; have c3 := (blk_cell hx1 3).trans rfl; have c4 := (blk_cell hx1 4).trans rfl; have c5 := (blk_cell hx1 5).trans rfl; have c6 := (blk_cell hx1 6).trans rfl; have c7 := (blk_cell hx1 7).trans rfl; have c8 := (blk_cell hx1 8).trans rfl; have c9 := (blk_cell hx1 9).trans rfl; have c10 := (blk_cell hx1 10).trans rfl; have c11 := (blk_cell hx1 11).trans rfl; have c12 := (blk_cell hx1 12).trans rfl; have c13 := (blk_cell hx1 13).trans rfl; have HB1 := Aside0.mk (bthen (below_alloc (Below.refl _ _) _) hb1); clear hb1 hx1)
    | (go_at_call 27; go_must (refine calls_of_args (args' := #[rpcV m A cap A2 cap2]) rfl ?_); go_must (refine (calepinlaw22_small.calls _ m.kind m.src m.dst m.term m.at_ m.logTerm m.ok m.commit m.read A cap m.logs m.snapAt m.snapTerm A2 cap2 m.nodes m.data false w1 (Kd.C_below HR.out HB1.out) HRC.out (Kd.C_below HR2.out HB1.out) HRC2.out HSM.out).mono ?_); rintro e w2 ⟨rfl, hb2⟩; have hx2 := blk_below HX1.out hb2; have HX2 := Aside0.mk hx2; have d0 := (blk_cell hx2 0).trans rfl; have d1 := (blk_cell hx2 1).trans rfl; have d2 := (blk_cell hx2 2).trans rfl; have d3 := (blk_cell hx2 3).trans rfl; have d4 := (blk_cell hx2 4).trans rfl; have d5 := (blk_cell hx2 5).trans rfl; have d6 := (blk_cell hx2 6).trans rfl; have d7 := (blk_cell hx2 7).trans rfl; have d8 := (blk_cell hx2 8).trans rfl; have d9 := (blk_cell hx2 9).trans rfl; have d10 := (blk_cell hx2 10).trans rfl; have d11 := (blk_cell hx2 11).trans rfl; have d12 := (blk_cell hx2 12).trans rfl; have d13 := (blk_cell hx2 13).trans rfl; have HB2 := Aside0.mk (bthen HB1.out hb2); clear hb2 hx2))
  go_ret
  exact ⟨rfl, HB2.out⟩
set_option maxHeartbeats 1600000 in
set_option maxRecDepth 100000 in
theorem apart_zero (m : Rpc) (A : Option Addr) (cap : Nat) (A2 : Option Addr) (cap2 : Nat) (which : Int) (w : World) (hA : Kd.C k38 w A m.logs.length m.logs) (hc : m.logs.length ≤ cap) (hA2 : Kd.C (Kd.int .i64) w A2 m.nodes.length m.nodes) (hc2 : m.nodes.length ≤ cap2) (ks : Nat) (hsm : calepinlaw22_small.f ks m.kind m.src m.dst m.term m.at_ m.logTerm m.ok m.commit m.read m.logs m.snapAt m.snapTerm m.nodes m.data = some true) :
    Calls Try.prog 10 #[rpcV m A cap A2 cap2, .int .i64 which, .int .i64 0] w fun e w' => e = .returned (.bool true) ∧ Below w.heap.size w w' := by
  have HR := Aside0.mk hA
  have HRC := Aside0.mk hc
  have HR2 := Aside0.mk hA2
  have HRC2 := Aside0.mk hc2
  have hm1 := hA.2.1
  have hm2 := hA2.2.1
  have HX := Aside0.mk (blk_new w (.cells (rpcC m A cap A2 cap2) 66))
  have HSM := Aside0.mk hsm
  clear hA hc hA2 hc2 hsm
  go_enter Try.func10, Try.ntmps10
  go_wp2_with (first
    | (go_at_call 26; go_must (refine (first_any _).mono ?_); rintro e w1 ⟨rfl, hb1⟩; have hx1 := blk_below HX.out hb1; have HX1 := Aside0.mk hx1; have c0 := (blk_cell hx1 0).trans rfl; have c1 := (blk_cell hx1 1).trans rfl; have c2 := (blk_cell hx1 2).trans rfl; have c3 := (blk_cell hx1 3).trans rfl; have c4 := (blk_cell hx1 4).trans rfl; have c5 := (blk_cell hx1 5).trans rfl; have c6 := (blk_cell hx1 6).trans rfl; have c7 := (blk_cell hx1 7).trans rfl; have c8 := (blk_cell hx1 8).trans rfl; have c9 := (blk_cell hx1 9).trans rfl; have c10 := (blk_cell hx1 10).trans rfl; have c11 := (blk_cell hx1 11).trans rfl; have c12 := (blk_cell hx1 12).trans rfl; have c13 := (blk_cell hx1 13).trans rfl; have HB1 := Aside0.mk (bthen (below_alloc (Below.refl _ _) _) hb1); clear hb1 hx1)
    | (go_at_call 27; go_must (refine calls_of_args (args' := #[rpcV m A cap A2 cap2]) rfl ?_); go_must (refine (calepinlaw22_small.calls _ m.kind m.src m.dst m.term m.at_ m.logTerm m.ok m.commit m.read A cap m.logs m.snapAt m.snapTerm A2 cap2 m.nodes m.data true w1 (Kd.C_below HR.out HB1.out) HRC.out (Kd.C_below HR2.out HB1.out) HRC2.out HSM.out).mono ?_); rintro e w2 ⟨rfl, hb2⟩; have hx2 := blk_below HX1.out hb2; have HX2 := Aside0.mk hx2; have d0 := (blk_cell hx2 0).trans rfl; have d1 := (blk_cell hx2 1).trans rfl; have d2 := (blk_cell hx2 2).trans rfl; have d3 := (blk_cell hx2 3).trans rfl; have d4 := (blk_cell hx2 4).trans rfl; have d5 := (blk_cell hx2 5).trans rfl; have d6 := (blk_cell hx2 6).trans rfl; have d7 := (blk_cell hx2 7).trans rfl; have d8 := (blk_cell hx2 8).trans rfl; have d9 := (blk_cell hx2 9).trans rfl; have d10 := (blk_cell hx2 10).trans rfl; have d11 := (blk_cell hx2 11).trans rfl; have d12 := (blk_cell hx2 12).trans rfl; have d13 := (blk_cell hx2 13).trans rfl; have HB2 := Aside0.mk (bthen HB1.out hb2); clear hb2 hx2))
  go_ret
  exact ⟨rfl, HB2.out⟩
set_option maxHeartbeats 1600000 in
set_option maxRecDepth 100000 in
theorem apart_none (m : Rpc) (A : Option Addr) (cap : Nat) (A2 : Option Addr) (cap2 : Nat) (which turn : Int) (w : World) (hA : Kd.C k38 w A m.logs.length m.logs) (hc : m.logs.length ≤ cap) (hA2 : Kd.C (Kd.int .i64) w A2 m.nodes.length m.nodes) (hc2 : m.nodes.length ≤ cap2) (ks : Nat) (hsm : calepinlaw22_small.f ks m.kind m.src m.dst m.term m.at_ m.logTerm m.ok m.commit m.read m.logs m.snapAt m.snapTerm m.nodes m.data = some true) (hfit : fitsRpc m) (hput : putRpc m = none) (h0 : turn ≠ 0) :
    Calls Try.prog 10 #[rpcV m A cap A2 cap2, .int .i64 which, .int .i64 turn] w fun e w' => e = .returned (.bool true) ∧ Below w.heap.size w w' := by
  have HR := Aside0.mk hA
  have HRC := Aside0.mk hc
  have HR2 := Aside0.mk hA2
  have HRC2 := Aside0.mk hc2
  have hm1 := hA.2.1
  have hm2 := hA2.2.1
  have HX := Aside0.mk (blk_new w (.cells (rpcC m A cap A2 cap2) 66))
  have HSM := Aside0.mk hsm
  clear hA hc hA2 hc2 hsm
  have HF := Aside0.mk hfit
  have HPUT := Aside0.mk hput
  have t0 : (turn == 0) = false := beq_eq_false_iff_ne.2 h0
  clear hfit hput h0
  go_enter Try.func10, Try.ntmps10
  go_wp2_with (first
    | (go_at_call 26; go_must (refine (first_any _).mono ?_); rintro e w1 ⟨rfl, hb1⟩; have hx1 := blk_below HX.out hb1; have HX1 := Aside0.mk hx1; have c0 := (blk_cell hx1 0).trans rfl; have c1 := (blk_cell hx1 1).trans rfl; have c2 := (blk_cell hx1 2).trans rfl; have c3 := (blk_cell hx1 3).trans rfl; have c4 := (blk_cell hx1 4).trans rfl; have c5 := (blk_cell hx1 5).trans rfl; have c6 := (blk_cell hx1 6).trans rfl; have c7 := (blk_cell hx1 7).trans rfl; have c8 := (blk_cell hx1 8).trans rfl; have c9 := (blk_cell hx1 9).trans rfl; have c10 := (blk_cell hx1 10).trans rfl; have c11 := (blk_cell hx1 11).trans rfl; have c12 := (blk_cell hx1 12).trans rfl; have c13 := (blk_cell hx1 13).trans rfl; have HB1 := Aside0.mk (bthen (below_alloc (Below.refl _ _) _) hb1); clear hb1 hx1)
    | (go_at_call 27; go_must (refine calls_of_args (args' := #[rpcV m A cap A2 cap2]) rfl ?_); go_must (refine (calepinlaw22_small.calls _ m.kind m.src m.dst m.term m.at_ m.logTerm m.ok m.commit m.read A cap m.logs m.snapAt m.snapTerm A2 cap2 m.nodes m.data true w1 (Kd.C_below HR.out HB1.out) HRC.out (Kd.C_below HR2.out HB1.out) HRC2.out HSM.out).mono ?_); rintro e w2 ⟨rfl, hb2⟩; have hx2 := blk_below HX1.out hb2; have HX2 := Aside0.mk hx2; have d0 := (blk_cell hx2 0).trans rfl; have d1 := (blk_cell hx2 1).trans rfl; have d2 := (blk_cell hx2 2).trans rfl; have d3 := (blk_cell hx2 3).trans rfl; have d4 := (blk_cell hx2 4).trans rfl; have d5 := (blk_cell hx2 5).trans rfl; have d6 := (blk_cell hx2 6).trans rfl; have d7 := (blk_cell hx2 7).trans rfl; have d8 := (blk_cell hx2 8).trans rfl; have d9 := (blk_cell hx2 9).trans rfl; have d10 := (blk_cell hx2 10).trans rfl; have d11 := (blk_cell hx2 11).trans rfl; have d12 := (blk_cell hx2 12).trans rfl; have d13 := (blk_cell hx2 13).trans rfl; have HB2 := Aside0.mk (bthen HB1.out hb2); clear hb2 hx2)
    | (go_at_call 28; go_must (refine calls_of_args (args' := #[rpcV m A cap A2 cap2]) rfl ?_); go_must (refine (Put_any m A cap A2 cap2 w2 (Kd.C_below HR.out HB2.out) HRC.out (Kd.C_below HR2.out HB2.out) HF.out).mono ?_); rintro e w3 ⟨v3, rfl, ho3, hb3⟩; rw [HPUT.out] at ho3 ⊢; simp only [Option.getD_none, Option.isSome_none, Bool.false_eq_true, if_false] at ho3 ⊢; obtain ⟨A3, kp3, rfl, hc3, hr3⟩ := R_read ho3; have HB3 := Aside0.mk (bthen HB2.out hb3); clear ho3 hb3 hc3 hr3))
  go_ret
  exact ⟨rfl, HB3.out⟩
set_option maxHeartbeats 4000000 in
set_option maxRecDepth 100000 in
theorem apart_some (m : Rpc) (A : Option Addr) (cap : Nat) (A2 : Option Addr) (cap2 : Nat) (which turn : Int) (w : World) (hA : Kd.C k38 w A m.logs.length m.logs) (hc : m.logs.length ≤ cap) (hA2 : Kd.C (Kd.int .i64) w A2 m.nodes.length m.nodes) (hc2 : m.nodes.length ≤ cap2) (ks : Nat) (hsm : calepinlaw22_small.f ks m.kind m.src m.dst m.term m.at_ m.logTerm m.ok m.commit m.read m.logs m.snapAt m.snapTerm m.nodes m.data = some true) (hfit : fitsRpc m) (hok : ROk m) (xs : List Int) (hput : putRpc m = some xs) (ht : I64 turn) (h0 : turn ≠ 0) (kn : Nat)
    (hbig : ∀ x ∈ m.logs, x.f2.f7.length ≤ kn ∧ x.f3.length ≤ kn) (hrl : ∀ v k, k < 9 → (refRpc (setF m v k)).length < 1099511627776) :
    Calls Try.prog 10 #[rpcV m A cap A2 cap2, .int .i64 which, .int .i64 turn] w fun e w' => e = .returned (.bool true) ∧ Below w.heap.size w w' := by
  have HR := Aside0.mk hA
  have HRC := Aside0.mk hc
  have HR2 := Aside0.mk hA2
  have HRC2 := Aside0.mk hc2
  have hm1 := hA.2.1
  have hm2 := hA2.2.1
  have HX := Aside0.mk (blk_new w (.cells (rpcC m A cap A2 cap2) 66))
  have HSM := Aside0.mk hsm
  clear hA hc hA2 hc2 hsm
  have HF := Aside0.mk hfit
  have HPUT := Aside0.mk hput
  have t0 : (turn == 0) = false := beq_eq_false_iff_ne.2 h0
  obtain ⟨k, hk, hk9⟩ : ∃ k : Nat, wrap64 ((IntKind.u64.wrap which).tmod 9) = (k : Int) ∧ k < 9 := by
    have h0 : 0 ≤ IntKind.u64.wrap which := by simp [IntKind.wrap, IntKind.signed, IntKind.bits]; omega
    have h1 : (IntKind.u64.wrap which).tmod 9 = (IntKind.u64.wrap which) % 9 := by rw [Int.tmod_eq_emod_of_nonneg h0]
    rw [h1]
    generalize IntKind.u64.wrap which = y at *
    exact ⟨(y % 9).toNat, by unfold wrap64; omega, by omega⟩
  have HNE := Aside0.mk (turn_ne hok hput turn ht h0 k hk9)
  obtain ⟨n, hn⟩ : ∃ n, setF m (bits .xor .i64 (getF m k) turn) k = n := ⟨_, rfl⟩
  have HNOK := Aside0.mk (show ROk n from hn ▸ set_ok m _ k hk9 hok (xor_i64 _ _))
  have HNPUT := Aside0.mk (show putRpc n = some (encRpc n) from hn ▸ set_put hput _ k hk9)
  have HNLEN := Aside0.mk (show (encRpc n).length = xs.length from by rw [← hn, set_len m _ k hk9, (Mc.put_enc hput).1])
  have HNS := Aside0.mk (show n.logs = m.logs ∧ n.nodes = m.nodes from by rw [← hn]; exact ⟨(set_same m _ k hk9).2.2.1, (set_same m _ k hk9).2.2.2.1⟩)
  have HNB := Aside0.mk (show (refRpc n).length < 1099511627776 from hn ▸ hrl _ k hk9)
  have HBIG := Aside0.mk hbig
  have HN := Aside0.mk hn
  have HNF := Aside0.mk (show fitsRpc n from ⟨by rw [HNLEN.out]; have h := hfit.1; rw [← (Mc.put_enc hput).1] at h; exact h, by rw [HNS.out.1]; exact hfit.2⟩)
  have HNR := Aside0.mk (show Kd.C k38 w A n.logs.length n.logs from by rw [HNS.out.1]; exact HR.out)
  have HNRC := Aside0.mk (show n.logs.length ≤ cap from by rw [HNS.out.1]; exact HRC.out)
  have HNR2 := Aside0.mk (show Kd.C (Kd.int .i64) w A2 n.nodes.length n.nodes from by rw [HNS.out.2]; exact HR2.out)
  have HNRC2 := Aside0.mk (show n.nodes.length ≤ cap2 from by rw [HNS.out.2]; exact HRC2.out)
  have HNG := Aside0.mk (show getRpc (encRpc n) = (n, 0) from getRpc_enc n HNOK.out ⟨(Mc.put_enc HNPUT.out).2.2.1, (Mc.put_enc HNPUT.out).2.2.2⟩ (Mc.put_enc HNPUT.out).2.1)
  have HNBS := Aside0.mk (show Bs (encRpc n) from Mf.Bs.encRpc n (by have := (Mc.put_enc HNPUT.out).2.2; omega))
  have HNBF := Aside0.mk (bytes_good kn n HNOK.out HNPUT.out (by rw [HNS.out.1]; exact hbig) HNB.out)
  have tl : ((xs.length : Int) == ((encRpc n).length : Int)) = true := by rw [HNLEN.out]; exact beq_self_eq_true _
  have te : ((strOfNums xs).toList == (strOfNums (encRpc n)).toList) = false := beq_eq_false_iff_ne.2 (fun he => HNE.out (by rw [Go.ByteArray.toList_eq, Go.ByteArray.toList_eq] at he; rw [hn]; exact ByteArray.ext (Array.ext' he)))
  rw [hn] at HNE
  have HOK := Aside0.mk hok
  clear hfit hput h0 hbig hrl hn hok ht
  go_enter Try.func10, Try.ntmps10
  go_upto_block 0 with (first
    | (go_at_call 26; go_must (refine (first_any _).mono ?_); rintro e w1 ⟨rfl, hb1⟩; have hx1 := blk_below HX.out hb1; have HX1 := Aside0.mk hx1; have c0 := (blk_cell hx1 0).trans rfl; have c1 := (blk_cell hx1 1).trans rfl; have c2 := (blk_cell hx1 2).trans rfl; have c3 := (blk_cell hx1 3).trans rfl; have c4 := (blk_cell hx1 4).trans rfl; have c5 := (blk_cell hx1 5).trans rfl; have c6 := (blk_cell hx1 6).trans rfl; have c7 := (blk_cell hx1 7).trans rfl; have c8 := (blk_cell hx1 8).trans rfl; have c9 := (blk_cell hx1 9).trans rfl; have c10 := (blk_cell hx1 10).trans rfl; have c11 := (blk_cell hx1 11).trans rfl; have c12 := (blk_cell hx1 12).trans rfl; have c13 := (blk_cell hx1 13).trans rfl; have HB1 := Aside0.mk (bthen (below_alloc (Below.refl _ _) _) hb1); clear hb1 hx1)
    | (go_at_call 27; go_must (refine calls_of_args (args' := #[rpcV m A cap A2 cap2]) rfl ?_); go_must (refine (calepinlaw22_small.calls _ m.kind m.src m.dst m.term m.at_ m.logTerm m.ok m.commit m.read A cap m.logs m.snapAt m.snapTerm A2 cap2 m.nodes m.data true w1 (Kd.C_below HR.out HB1.out) HRC.out (Kd.C_below HR2.out HB1.out) HRC2.out HSM.out).mono ?_); rintro e w2 ⟨rfl, hb2⟩; have hx2 := blk_below HX1.out hb2; have HX2 := Aside0.mk hx2; have d0 := (blk_cell hx2 0).trans rfl; have d1 := (blk_cell hx2 1).trans rfl; have d2 := (blk_cell hx2 2).trans rfl; have d3 := (blk_cell hx2 3).trans rfl; have d4 := (blk_cell hx2 4).trans rfl; have d5 := (blk_cell hx2 5).trans rfl; have d6 := (blk_cell hx2 6).trans rfl; have d7 := (blk_cell hx2 7).trans rfl; have d8 := (blk_cell hx2 8).trans rfl; have d9 := (blk_cell hx2 9).trans rfl; have d10 := (blk_cell hx2 10).trans rfl; have d11 := (blk_cell hx2 11).trans rfl; have d12 := (blk_cell hx2 12).trans rfl; have d13 := (blk_cell hx2 13).trans rfl; have HB2 := Aside0.mk (bthen HB1.out hb2); clear hb2 hx2)
    | (go_at_call 28; (refine calls_of_args (args' := #[rpcV m A cap A2 cap2]) rfl ?_); go_must (refine (Put_any m A cap A2 cap2 w2 (Kd.C_below HR.out HB2.out) HRC.out (Kd.C_below HR2.out HB2.out) HF.out).mono ?_); rintro e w3 ⟨v3, rfl, ho3, hb3⟩; rw [HPUT.out] at ho3 ⊢; simp only [Option.getD_some, Option.isSome_some, if_true] at ho3 ⊢; obtain ⟨A3, kp3, rfl, hc3, hr3⟩ := R_read ho3; have HR3 := Aside0.mk hr3; have HC3 := Aside0.mk hc3; have hx3 := blk_below HX2.out hb3; have e0 := (blk_cell hx3 0).trans rfl; have e1 := (blk_cell hx3 1).trans rfl; have e2 := (blk_cell hx3 2).trans rfl; have e3 := (blk_cell hx3 3).trans rfl; have e4 := (blk_cell hx3 4).trans rfl; have e5 := (blk_cell hx3 5).trans rfl; have e6 := (blk_cell hx3 6).trans rfl; have e7 := (blk_cell hx3 7).trans rfl; have e8 := (blk_cell hx3 8).trans rfl; have e9 := (blk_cell hx3 9).trans rfl; have e10 := (blk_cell hx3 10).trans rfl; have e11 := (blk_cell hx3 11).trans rfl; have e12 := (blk_cell hx3 12).trans rfl; have e13 := (blk_cell hx3 13).trans rfl; have HB3 := Aside0.mk (bthen HB2.out hb3); clear ho3 hb3 hr3 hx3)
    | ((with_reducible refine gate_store (t := 66) (p := 9) rfl ?_); go_must (refine Ca.store_whole (g := w3.heap.size) (e := 66) (old := Mg.zeroC) (cs := rpcC m A cap A2 cap2) rfl rfl 66 (.tmp 9) (.tmp 36) rfl rfl rfl ?hb rfl info66 ?h1 ?_); go_must (case hb => exact blk_new w3 _); go_must (case h1 => exact fun q hq => List.all_eq_true.1 (show (rpcC m A cap A2 cap2).toList.all (fun q => q.oneCell') = true from rfl) q hq); intro w4 hb4 hg4; have HX4 := Aside0.mk hb4; have HK4 := Aside0.mk (Mp.below_new hg4); clear hb4 hg4))
  clear c0 d0 e0 c1 d1 e1 c2 d2 e2 c3 d3 e3 c4 d4 e4 c5 d5 e5 c6 d6 e6 c7 d7 e7 c8 d8 e8 c9 d9 e9 c10 d10 e10 c11 d11 e11 c12 d12 e12 c13 d13 e13
  have HLT := Aside0.mk (show w3.heap.size < w4.heap.size from blk_lt HX4.out)
  go_cut [] (fun wc => Aside0 (Below w3.heap.size w3 wc) ∧ Aside0 (wc.heap[w3.heap.size]? = some (.cells (rpcC n A cap A2 cap2) 66 (0, 0))))
  case first =>
    go_wp2_with fail
    go_loopw [50] (fun i wr => ∃ (x : Int), i = .int .i64 x ∧ Aside0 (0 ≤ x ∧ x ≤ 9) ∧ Aside0 (Below w3.heap.size w3 wr) ∧ Aside0 (wr.heap[w3.heap.size]? = some (.cells (rpcC (if (k : Int) < x then n else m) A cap A2 cap2) 66 (0, 0))) ∧ Aside0 (wr.heap[w4.heap.size]? = some (.cells (ps9 w3.heap.size) 75 (0, 0)))) (fun i _ => 9 - (intOf i).toNat)
    case atStart => exact ⟨0, rfl, ⟨by omega⟩, ⟨below_alloc HK4.out _⟩, ⟨by rw [if_neg (by omega)]; exact blk_alloc HX4.out _⟩, ⟨blk_new w4 _⟩⟩
    case round =>
      obtain ⟨x, rfl, HX0, HBW, HXC, HXP⟩ := hrel
      obtain ⟨hx0, hx1⟩ := HX0.out
      by_cases c : x < 9
      · have e0 : decide (0 ≤ x) = true := decide_eq_true hx0
        have e1 : decide (x < 9) = true := decide_eq_true c
        have hxn : x.toNat < offs.length := by show x.toNat < 9; omega
        have hcell : wr.cell? ((⟨w4.heap.size, 0, none⟩ : Addr).add x.toNat) = some (.pointer (some ⟨w3.heap.size, offs[x.toNat], none⟩)) := by
          rw [add_plain, cell_of_row wr w4.heap.size x.toNat _ _ _ HXP.out]
          simp only [ps9, List.getElem?_toArray, List.getElem?_map, List.getElem?_eq_getElem hxn, Option.map_some]
        rw [add_plain] at hcell
        by_cases cx : x = (k : Int)
        · subst cx
          have tk : ((k : Int) == wrap64 ((IntKind.u64.wrap which).tmod 9)) = true := by rw [hk]; exact beq_self_eq_true _
          have hkc : wr.cell? ⟨w4.heap.size, k, none⟩ = some (.pointer (some ⟨w3.heap.size, offs[k]'hk9, none⟩)) := by simpa using hcell
          obtain ⟨o, ho⟩ : ∃ o, offs[k]'hk9 = o := ⟨_, rfl⟩
          rw [ho] at hkc
          have hcx := HXC.out
          rw [if_neg (by omega)] at hcx
          have hcc : wr.cell? ⟨w3.heap.size, o, none⟩ = some (.int .i64 (getF m k)) := (blk_cell hcx o).trans (cell_f m A cap A2 cap2 k hk9 o ho)
          have hff := blk_frozen hcx o
          have HCX := Aside0.mk hcx
          have HKO := Aside0.mk ho
          have HK := Aside0.mk hk
          clear hcx ho hk hcell
          go_wp2_with fail
          go_roundw
          case rel =>
            have hn : (rpcC m A cap A2 cap2).setIfInBounds o (.int .i64 (bits .xor .i64 (getF m k) turn)) = rpcC n A cap A2 cap2 := by
              rw [cell_s m A cap A2 cap2 _ k hk9 o HKO.out, HN.out]
            refine ⟨(k : Int) + 1, by first | rfl | (simp [wrap64]; omega), ⟨by omega⟩, ⟨below_set HBW.out (Nat.le_refl _)⟩, ⟨?_⟩, ⟨?_⟩⟩
            · rw [if_pos (by omega), ← hn]
              exact blk_set HCX.out o _
            · exact blk_far HXP.out (p := ⟨w3.heap.size, o, none⟩) (by show w4.heap.size ≠ w3.heap.size; have := HLT.out; omega) _
          case measure => simp [intOf]; omega
        · have tk : (x == wrap64 ((IntKind.u64.wrap which).tmod 9)) = false := by rw [hk]; exact beq_eq_false_iff_ne.2 cx
          go_wp2_with fail
          go_roundw
          case rel =>
            refine ⟨x + 1, rfl, ⟨by omega⟩, HBW, ⟨?_⟩, HXP⟩
            have h := HXC.out
            by_cases q : (k : Int) < x
            · rw [if_pos q] at h; rw [if_pos (by omega)]; exact h
            · rw [if_neg q] at h; rw [if_neg (by omega)]; exact h
          case measure => simp [intOf]; omega
      · have e1 : decide (x < 9) = false := decide_eq_false c
        go_wp2_with fail
        go_meet
        have h := HXC.out
        rw [if_pos (by omega)] at h
        exact ⟨HBW, ⟨h⟩⟩
  case rest =>
    obtain ⟨HBC, HXR⟩ := hcut
    have hz := HXR.out
    have c0 := (blk_cell hz 0).trans rfl
    have c1 := (blk_cell hz 1).trans rfl
    have c2 := (blk_cell hz 2).trans rfl
    have c3 := (blk_cell hz 3).trans rfl
    have c4 := (blk_cell hz 4).trans rfl
    have c5 := (blk_cell hz 5).trans rfl
    have c6 := (blk_cell hz 6).trans rfl
    have c7 := (blk_cell hz 7).trans rfl
    have c8 := (blk_cell hz 8).trans rfl
    have c9 := (blk_cell hz 9).trans rfl
    have c10 := (blk_cell hz 10).trans rfl
    have c11 := (blk_cell hz 11).trans rfl
    have c12 := (blk_cell hz 12).trans rfl
    have c13 := (blk_cell hz 13).trans rfl
    have hn1 := HNR.out.2.1
    have hn2 := HNR2.out.2.1
    clear hz
    go_wp2_with (first
      | (go_at_call 28; (refine calls_of_args (args' := #[rpcV n A cap A2 cap2]) rfl ?_); go_must (refine (Put_any n A cap A2 cap2 _ (Kd.C_below HNR.out (bthen HB3.out HBC.out)) HNRC.out (Kd.C_below HNR2.out (bthen HB3.out HBC.out)) HNF.out).mono ?_); rintro e w5 ⟨v5, rfl, ho5, hb5⟩; rw [HNPUT.out] at ho5 ⊢; simp only [Option.getD_some, Option.isSome_some, if_true] at ho5 ⊢; obtain ⟨A5, kp5, rfl, hc5, hr5⟩ := R_read ho5; have HR5 := Aside0.mk hr5; have HC5 := Aside0.mk hc5; have HB5 := Aside0.mk (bthen HBC.out hb5); clear ho5 hb5 hr5)
      | (go_at_call 30; go_must (refine (show Calls Try.prog 30 #[.slice A5 (encRpc n).length kp5] w5 (GetOut w5 (n, 0)) from HNG.out ▸ Get_any (encRpc n) A5 kp5 w5 HR5.out HC5.out HNBS.out (by have := HNOK.out.len; omega)).mono ?_); rintro e w6 ⟨A6, c6, A7, c7, rfl, ho6, ho7, hb6⟩; have HO6 := Aside0.mk ho6; have HO7 := Aside0.mk ho7; have HB6 := Aside0.mk hb6; clear ho6 ho7 hb6)
      | ((with_reducible refine gate_store (t := 66) (p := 14) rfl ?_); go_must (refine Ca.store_whole (g := w6.heap.size) (e := 66) (old := Mg.zeroC) (cs := rpcC n A6 c6 A7 c7) rfl rfl 66 (.tmp 14) (.tmp 76) rfl rfl rfl ?hb rfl info66 ?h1 ?_); go_must (case hb => exact blk_new w6 _); go_must (case h1 => exact fun q hq => List.all_eq_true.1 (show (rpcC n A6 c6 A7 c7).toList.all (fun q => q.oneCell') = true from rfl) q hq); intro w7 hb7 hg7; have d0 := (blk_cell hb7 0).trans rfl; have d1 := (blk_cell hb7 1).trans rfl; have d2 := (blk_cell hb7 2).trans rfl; have d3 := (blk_cell hb7 3).trans rfl; have d4 := (blk_cell hb7 4).trans rfl; have d5 := (blk_cell hb7 5).trans rfl; have d6 := (blk_cell hb7 6).trans rfl; have d7 := (blk_cell hb7 7).trans rfl; have d8 := (blk_cell hb7 8).trans rfl; have d9 := (blk_cell hb7 9).trans rfl; have d10 := (blk_cell hb7 10).trans rfl; have d11 := (blk_cell hb7 11).trans rfl; have d12 := (blk_cell hb7 12).trans rfl; have d13 := (blk_cell hb7 13).trans rfl; have HB7 := Aside0.mk (bthen HB6.out (Mp.below_new hg7)); have HR6 := Aside0.mk (Kd.R_reads' (Kd.R_below HO6.out (Mp.below_new hg7))); have HR7 := Aside0.mk (Kd.R_reads' (Kd.R_below HO7.out (Mp.below_new hg7))); clear hb7 hg7)
      | (go_at_call 29; (refine calls_of_args (args' := #[rpcV n A6 c6 A7 c7]) rfl ?_); go_must (refine (calepinref22_Bytes.calls _ n.kind n.src n.dst n.term n.at_ n.logTerm n.ok n.commit n.read A6 c6 n.logs n.snapAt n.snapTerm A7 c7 n.nodes n.data (encRpc n) true w7 HR6.out.2.2 HR6.out.2.1 HR7.out.2.2 HR7.out.2.1 HNBF.out).mono ?_); rintro e w8 ⟨v8, rfl, ho8, hb8⟩; obtain ⟨A8, kp8, rfl, hc8, hr8⟩ := R_read ho8; have HB8 := Aside0.mk (bthen HB7.out hb8); have s3 := Kd.C_string (P := Try.prog) (src := 27) (dst := 9) (c := kp3) (w := w8) Try.underlying27 Try.underlying5 Try.underlying9 (Kd.C_below HR3.out (bthen HB5.out HB8.out)); have s5 := Kd.C_string (P := Try.prog) (src := 27) (dst := 9) (c := kp5) (w := w8) Try.underlying27 Try.underlying5 Try.underlying9 (Kd.C_below HR5.out HB8.out); have s8 := Kd.C_string (P := Try.prog) (src := 27) (dst := 9) (c := kp8) (w := w8) Try.underlying27 Try.underlying5 Try.underlying9 hr8; clear ho8 hb8 hr8 hc8))
    all_goals go_ret
    all_goals (refine ⟨congrArg Ending.returned ?_, ?_⟩)
    all_goals first
      | (simp [Act.put]; done)
      | exact bthen HB3.out (bthen HB5.out HB8.out)
theorem apart_any (m : Rpc) (A : Option Addr) (cap : Nat) (A2 : Option Addr) (cap2 : Nat) (which turn : Int) (w : World) (hA : Kd.C k38 w A m.logs.length m.logs) (hc : m.logs.length ≤ cap) (hA2 : Kd.C (Kd.int .i64) w A2 m.nodes.length m.nodes) (hc2 : m.nodes.length ≤ cap2) (hfit : fitsRpc m) (hok : ROk m) (ht : I64 turn) (kn : Nat)
    (hbig : ∀ x ∈ m.logs, x.f2.f7.length ≤ kn ∧ x.f3.length ≤ kn) (hrl : (refRpc m).length < 1099511627776) :
    Calls Try.prog 10 #[rpcV m A cap A2 cap2, .int .i64 which, .int .i64 turn] w fun e w' => e = .returned (.bool true) ∧ Below w.heap.size w w' := by
  have hi := item_ge m.logs
  have hen := enc_len' m
  have hlen := hok.len
  obtain ⟨b, hb⟩ := small_f (m.logs.length + 1) m (by omega) (by omega)
  cases b
  · exact apart_big m A cap A2 cap2 which turn w hA hc hA2 hc2 _ hb
  · by_cases h0 : turn = 0
    · subst h0
      exact apart_zero m A cap A2 cap2 which w hA hc hA2 hc2 _ hb
    · cases hp : putRpc m with
      | none => exact apart_none m A cap A2 cap2 which turn w hA hc hA2 hc2 _ hb hfit hp h0
      | some xs =>
        refine apart_some m A cap A2 cap2 which turn w hA hc hA2 hc2 _ hb hfit hok xs hp ht h0 kn hbig (fun v k hk => ?_)
        obtain ⟨_, _, h3, h4, h5, _⟩ := set_same m v k hk
        rw [ref_len] at hrl ⊢
        rw [h3, h4, h5]
        exact hrl
end Go.Proofs.Ytjhcbggpbfejgaa.Ma
