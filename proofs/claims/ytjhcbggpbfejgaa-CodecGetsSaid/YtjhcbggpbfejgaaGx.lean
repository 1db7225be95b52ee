/- The two great regions of the law CodecGets, step by step. -/
import Derived.Test.YtjhcbggpbfejgaaGs
import Derived.Test.YtjhcbggpbfejgaaGk
namespace Go.Proofs.Ytjhcbggpbfejgaa.Gx
open Go.RowKit Go.Proofs.YtjhcbggpbfejgaaW.PrintWords Go.Proofs.YtjhcbggpbfejgaaW.PrintLast Go.Proofs.YtjhcbggpbfejgaaW.PrintMore
open Go.Proofs.Ytjhcbggpbfejgaa.Cp Go.Proofs.Ytjhcbggpbfejgaa.Gs Go.Proofs.Ytjhcbggpbfejgaa.Gw
open Go.Proofs.Ytjhcbggpbfejgaa.XCodecGets (S93 k93 mk93 q93 zeroC)
set_option linter.unusedVariables false
set_option linter.unusedSimpArgs false
def bits (n m : Nat) : Array Bool := ((List.range n).map fun i => m.testBit i).toArray
def T20 : Bool × List (List Nat × List Nat) := (true, [([], []), ([0], [0]), ([1], [1]), ([2], [2]), ([3, 2, 2], [2, 3]), ([4, 2], [2, 4]), ([2, 5], [2, 5]), ([6, 4], [6]), ([7], [7]), ([8, 7], [7, 8]), ([9, 7, 7], [7, 9]), ([10], [10]), ([11, 10, 10], [10, 11]), ([12, 10], [10, 12]), ([10], [10]), ([14, 12, 10], [10, 14]), ([15, 10], [10, 15]), ([13, 16, 10], [10, 13, 16]), ([10, 17, 7], [7, 10, 17]), ([7, 18], [7, 18]), ([19, 15], [19]), ([20], [20]), ([21, 20], [20, 21]), ([22, 20, 20], [20, 22]), ([23], [23]), ([24, 23], [23, 24]), ([25, 23, 23], [23, 25]), ([26, 23], [23, 26]), ([27, 26, 23], [23, 27]), ([28], [28]), ([29, 28], [28, 29]), ([30, 28], [28, 30]), ([28, 31, 23], [23, 28, 31]), ([32, 28, 23], [23, 32]), ([33], [33]), ([34, 33], [33, 34]), ([35, 33], [33, 35]), ([33, 36, 23], [23, 33, 36]), ([37, 33, 23], [23, 37]), ([38], [38]), ([39, 38], [38, 39]), ([40, 38], [38, 40]), ([41, 38], [38, 41]), ([38, 42, 23], [23, 38, 42]), ([23, 43, 20], [20, 23, 43]), ([20, 44], [20, 44])])
def B20 : List Nat := [0, 1, 3, 7, 15, 31, 63, 127, 255, 511, 1023, 2047, 4095, 8191, 2047, 24575, 57343, 131071, 262143, 524287, 1048575, 2097151, 4194303, 8388607, 16777215, 33554431, 67108863, 134217727, 268435455, 536870911, 1073741823, 2147483647, 4294967295, 8589934591, 17179869183, 34359738367, 68719476735, 137438953471, 274877906943, 549755813887, 1099511627775, 2199023255551, 4398046511103, 8796093022207, 17592186044415, 35184372088831]
theorem tab20 : rtab .any (opsOf Try.f5 20) = T20 := by kernel_rfl
theorem bits20 : waitsOk T20.2 B20 = true := by kernel_rfl
def T22 : Bool × List (List Nat × List Nat) := (true, [([], []), ([0], [0]), ([1], [1]), ([2], [2]), ([3, 2, 2], [2, 3]), ([4, 2], [2, 4]), ([2], [2]), ([6, 2], [2, 6]), ([5, 7, 2], [2, 5, 7]), ([8, 4, 2], [2, 8]), ([9], [9]), ([10, 9, 9], [9, 10]), ([11, 9], [9, 11]), ([9], [9]), ([13, 9], [9, 13]), ([12, 14, 9], [9, 12, 14]), ([9, 15, 2], [2, 9, 15]), ([2, 16], [2, 16]), ([17, 11], [17]), ([18], [18]), ([19, 18], [18, 19]), ([20, 18, 18], [18, 20]), ([21], [21]), ([22, 21, 21], [21, 22]), ([23, 21], [21, 23]), ([21], [21]), ([25, 21], [21, 25]), ([24, 26, 21], [21, 24, 26]), ([27, 23, 21], [21, 27]), ([28], [28]), ([29, 28, 28], [28, 29]), ([30, 28], [28, 30]), ([28], [28]), ([32, 28], [28, 32]), ([31, 33, 28], [28, 31, 33]), ([28, 34, 21], [21, 28, 34]), ([21, 35, 18], [18, 21, 35]), ([18, 36], [18, 36])])
def B22 : List Nat := [0, 1, 3, 7, 15, 31, 7, 71, 255, 511, 1023, 2047, 4095, 1023, 9215, 32767, 65535, 131071, 262143, 524287, 1048575, 2097151, 4194303, 8388607, 16777215, 4194303, 37748735, 134217727, 268435455, 536870911, 1073741823, 2147483647, 536870911, 4831838207, 17179869183, 34359738367, 68719476735, 137438953471]
theorem tab22 : rtab .any (opsOf Try.f5 22) = T22 := by kernel_rfl
theorem bits22 : waitsOk T22.2 B22 = true := by kernel_rfl

set_option maxHeartbeats 4000000 in
theorem g20a {Q : Exit → Act → World → Prop} (hQ : PanicFree Q) {w0 : World} {b1 b2 b3 : Nat} {C : Cmd × Int} {R : Cr.Rep S93 × Int} {L : Log × Int} {A3 A5 A7 A8 : Option Addr} {k3 k5 k7 k8 : Nat} (F : World → Prop)
    (hK : ∀ W, F W → Kept w0 b1 b2 b3 C.1 R.1 L.1 A3 k3 A5 k5 A7 k7 A8 k8 W) (hFb : ∀ W W1, F W → Below W.heap.size W W1 → F W1)
    (hc : C.2 ≠ 0 → C.1 = zeroCmd) (hr : R.2 ≠ 0 → R.1 = ⟨0, 0, ⟨#[]⟩, [], ⟨#[]⟩⟩) (hl : L.2 ≠ 0 → L.1 = zeroLog) (a : Act) (hM : a.tmps.size = 203) (h4 : a.tmps.getD 4 undef = .pointer (some ⟨b1, 0, none⟩)) (h5 : a.tmps.getD 5 undef = .int .i64 C.2) (h6 : a.tmps.getD 6 undef = .pointer (some ⟨b2, 0, none⟩)) (h7 : a.tmps.getD 7 undef = .int .i64 R.2) (h8 : a.tmps.getD 8 undef = .pointer (some ⟨b3, 0, none⟩)) (h9 : a.tmps.getD 9 undef = .int .i64 L.2) (w : World) (HF : F w)
    (cont : ∀ a' w, Fr 87 132 a a' → F w → wpAnyLast Try.prog .any (opsOf Try.f5 20) Q F [] 38 (bits 46 255) (act a' [(94, .bool false)]) w) :
    wpAnyLast Try.prog .any (opsOf Try.f5 20) Q F [] 46 (bits 46 0) (act a []) w := by
  have HT := tab20
  have HB := bits20
  generalize hb : (C.2 != 0) = b
  refine pureS (i := 0) (n := 87) (v := .int .i64 C.2) (bits 46 1) hM (by rfl) hQ rfl rfl (any_of HT (by kernel_rfl)) rfl (fun w => r_move rfl h5) ?_
  refine pureS (i := 1) (n := 88) (v := .bool b) (bits 46 3) hM (by rfl) hQ rfl rfl (any_of HT (by kernel_rfl)) rfl (fun w => r_neqI .i64 C.2 0 b rfl rfl rfl hb) ?_
  refine pureS (i := 2) (n := 89) (v := .bool b) (bits 46 7) hM (by rfl) hQ rfl rfl (any_of HT (by kernel_rfl)) rfl (fun w => r_move rfl rfl) ?_
  cases b
  · refine offS (i := 3) (n := 90) (bits 46 15) hM (by rfl) hQ rfl rfl (any_of HT (by kernel_rfl)) rfl ?_
    refine offS (i := 4) (n := 91) (bits 46 31) hM (by rfl) hQ rfl rfl (any_of HT (by kernel_rfl)) rfl ?_
    refine offS (i := 5) (n := 92) (bits 46 63) hM (by rfl) hQ rfl rfl (any_of HT (by kernel_rfl)) rfl ?_
    refine pureS (i := 6) (n := 93) (v := .bool false) (bits 46 127) hM (by rfl) hQ rfl rfl (any_of HT (by kernel_rfl)) rfl (fun w => r_pick false rfl rfl rfl) ?_
    refine pureS (i := 7) (n := 94) (v := .bool false) (bits 46 255) hM (by rfl) hQ rfl rfl (any_of HT (by kernel_rfl)) rfl (fun w => r_move rfl rfl) ?_
    rw [rebase _ hM _ (by rfl) (n := 94) (by decide) rfl]; exact cont _ _ (Fr.act _ _ (by rfl)) HF
  · have hz := hc (by simpa using hb)
    refine oneV (i := 3) (n := 90) (v := .agg (cmdC C.1 A3 k3)) (bits 46 15) hM (by rfl) rfl rfl (one_of HT (by kernel_rfl)) (by decide) rfl (r_load_blk rfl h4 (hK _ HF).x1 Try.underlying25 rfl infoC) HF ?_
    refine oneC (i := 4) (n := 91) (f := 21) (bits 46 31) hM (by rfl) rfl rfl (one_of HT (by kernel_rfl)) (by decide) rfl rfl Try.func21 (by kernel_rfl) rfl #[.agg (cmdC C.1 A3 k3)] (by simp only [List.map_toArray, List.map_cons, List.map_nil]; rfl) ?_
    refine (XCodecGets.calepinref15_Zero.calls C.1.op C.1.book C.1.name C.1.data C.1.mat C.1.non C.1.token A3 k3 C.1.names C.1.at_ C.1.session C.1.seq true _ (RX.c (hK _ HF).n3) (RX.le (hK _ HF).n3) (zeroC _ hz)).mono ?_
    rintro e w1 ⟨rfl, hb1⟩
    have HF1 := hFb _ _ HF hb1
    refine ⟨_, rfl, HF1, ?_⟩
    clear HF hb1; have HF := HF1; clear HF1
    refine pureS (i := 5) (n := 92) (v := .bool false) (bits 46 63) hM (by rfl) hQ rfl rfl (any_of HT (by kernel_rfl)) rfl (fun w => r_not true rfl rfl) ?_
    refine pureS (i := 6) (n := 93) (v := .bool false) (bits 46 127) hM (by rfl) hQ rfl rfl (any_of HT (by kernel_rfl)) rfl (fun w => r_pick true rfl rfl rfl) ?_
    refine pureS (i := 7) (n := 94) (v := .bool false) (bits 46 255) hM (by rfl) hQ rfl rfl (any_of HT (by kernel_rfl)) rfl (fun w => r_move rfl rfl) ?_
    rw [rebase _ hM _ (by rfl) (n := 94) (by decide) rfl]; exact cont _ _ (Fr.act _ _ (by rfl)) HF

theorem act_swap3 (a : Act) (u v x : Value) (l : PL) : act a ((103, u) :: (100, v) :: (102, x) :: l) = act a ((103, u) :: (102, x) :: (100, v) :: l) := by
  have e2 := Array.setIfInBounds_comm (xs := (act a l).tmps) x v (show (102 : Nat) ≠ 100 by decide)
  simp only [act, Act.put]
  rw [e2]
theorem act_turn3 (a : Act) (u v x : Value) (l : PL) : act a ((100, v) :: (103, u) :: (102, x) :: l) = act a ((103, u) :: (102, x) :: (100, v) :: l) := by
  have e := Array.setIfInBounds_comm (xs := (act a l).tmps.setIfInBounds 102 x) u v (show (103 : Nat) ≠ 100 by decide)
  have e2 := Array.setIfInBounds_comm (xs := (act a l).tmps) x v (show (102 : Nat) ≠ 100 by decide)
  simp only [act, Act.put]
  rw [e, e2]

set_option maxHeartbeats 4000000 in
theorem g20b {Q : Exit → Act → World → Prop} (hQ : PanicFree Q) {w0 : World} {b1 b2 b3 : Nat} {C : Cmd × Int} {R : Cr.Rep S93 × Int} {L : Log × Int} {A3 A5 A7 A8 : Option Addr} {k3 k5 k7 k8 : Nat} (F : World → Prop)
    (hK : ∀ W, F W → Kept w0 b1 b2 b3 C.1 R.1 L.1 A3 k3 A5 k5 A7 k7 A8 k8 W) (hFb : ∀ W W1, F W → Below W.heap.size W W1 → F W1)
    (hc : C.2 ≠ 0 → C.1 = zeroCmd) (hr : R.2 ≠ 0 → R.1 = ⟨0, 0, ⟨#[]⟩, [], ⟨#[]⟩⟩) (hl : L.2 ≠ 0 → L.1 = zeroLog) (a : Act) (hM : a.tmps.size = 203) (h4 : a.tmps.getD 4 undef = .pointer (some ⟨b1, 0, none⟩)) (h5 : a.tmps.getD 5 undef = .int .i64 C.2) (h6 : a.tmps.getD 6 undef = .pointer (some ⟨b2, 0, none⟩)) (h7 : a.tmps.getD 7 undef = .int .i64 R.2) (h8 : a.tmps.getD 8 undef = .pointer (some ⟨b3, 0, none⟩)) (h9 : a.tmps.getD 9 undef = .int .i64 L.2) (w : World) (HF : F w)
    (cont : ∀ a' w, Fr 87 132 a a' → F w → wpAnyLast Try.prog .any (opsOf Try.f5 20) Q F [] 25 (bits 46 2097151) (act a' [(107, .bool false)]) w) :
    wpAnyLast Try.prog .any (opsOf Try.f5 20) Q F [] 38 (bits 46 255) (act a [(94, .bool false)]) w := by
  have HT := tab20
  have HB := bits20
  generalize hb : (R.2 != 0) = b
  refine pureS (i := 8) (n := 95) (v := .int .i64 R.2) (bits 46 511) hM (by rfl) hQ rfl rfl (any_of HT (by kernel_rfl)) rfl (fun w => r_move rfl h7) ?_
  refine pureS (i := 9) (n := 96) (v := .bool b) (bits 46 1023) hM (by rfl) hQ rfl rfl (any_of HT (by kernel_rfl)) rfl (fun w => r_neqI .i64 R.2 0 b rfl rfl rfl hb) ?_
  refine pureS (i := 10) (n := 97) (v := .bool b) (bits 46 2047) hM (by rfl) hQ rfl rfl (any_of HT (by kernel_rfl)) rfl (fun w => r_move rfl rfl) ?_
  cases b
  · refine offS (i := 11) (n := 98) (bits 46 4095) hM (by rfl) hQ rfl rfl (any_of HT (by kernel_rfl)) rfl ?_
    refine offS (i := 12) (n := 99) (bits 46 8191) hM (by rfl) hQ rfl rfl (any_of HT (by kernel_rfl)) rfl ?_
    refine offS (i := 13) (n := 100) (bits 46 16383) hM (by rfl) hQ rfl rfl (any_of HT (by kernel_rfl)) rfl ?_
    refine offS (i := 14) (n := 101) (bits 46 32767) hM (by rfl) hQ rfl rfl (any_of HT (by kernel_rfl)) rfl ?_
    refine offS (i := 15) (n := 102) (bits 46 65535) hM (by rfl) hQ rfl rfl (any_of HT (by kernel_rfl)) rfl ?_
    refine offS (i := 16) (n := 103) (bits 46 131071) hM (by rfl) hQ rfl rfl (any_of HT (by kernel_rfl)) rfl ?_
    refine offS (i := 17) (n := 104) (bits 46 262143) hM (by rfl) hQ rfl rfl (any_of HT (by kernel_rfl)) rfl ?_
    refine pureS (i := 18) (n := 105) (v := .bool false) (bits 46 524287) hM (by rfl) hQ rfl rfl (any_of HT (by kernel_rfl)) rfl (fun w => r_pick false rfl rfl rfl) ?_
    refine pureS (i := 19) (n := 106) (v := .bool false) (bits 46 1048575) hM (by rfl) hQ rfl rfl (any_of HT (by kernel_rfl)) rfl (fun w => r_pick false rfl rfl rfl) ?_
    refine pureS (i := 20) (n := 107) (v := .bool false) (bits 46 2097151) hM (by rfl) hQ rfl rfl (any_of HT (by kernel_rfl)) rfl (fun w => r_move rfl rfl) ?_
    rw [rebase _ hM _ (by rfl) (n := 107) (by decide) rfl]; exact cont _ _ (Fr.act _ _ (by rfl)) HF
  · have hz := hr (by simpa using hb)
    obtain ⟨zb, hzb⟩ := zeroRep
    refine pureS (i := 14) (n := 101) (v := .agg zR) (bits 46 18431) hM (by rfl) hQ rfl rfl (any_of HT (by kernel_rfl)) rfl (fun w => r_build rfl (buildR w)) ?_
    refine oneV (i := 11) (n := 98) (v := .agg (repC R.1 (.slice A5 R.1.ents.length k5))) (bits 46 20479) hM (by rfl) rfl rfl (one_of HT (by kernel_rfl)) (by decide) rfl (r_load_blk rfl h6 (hK _ HF).x2 Try.underlying45 rfl infoR) HF ?_
    refine oneC (i := 12) (n := 99) (f := 22) (bits 46 24575) hM (by rfl) rfl rfl (one_of HT (by kernel_rfl)) (by decide) rfl rfl Try.func22 (by kernel_rfl) rfl #[.agg (repC R.1 (.slice A5 R.1.ents.length k5))] (by simp only [List.map_toArray, List.map_cons, List.map_nil]; rfl) ?_
    refine (XCodecGets.calepinref15_Reply.calls 10 R.1.st R.1.tag R.1.data A5 k5 R.1.ents R.1.token zb w (RX.c (hK _ HF).n5) (RX.le (hK _ HF).n5) (by rw [hz]; exact hzb)).mono ?_
    rintro e w1 ⟨v12, rfl, ho, hb1⟩
    have HF1 := hFb _ _ HF hb1
    have HV1 : RX (Kd.int .u8) 5 w1 v12 zb := ⟨_, ho⟩
    refine ⟨_, rfl, HF1, ?_⟩
    clear HF hb1 ho; have HF := HF1; have HV := HV1; clear HF1 HV1
    have J : ∀ (s : Value) (w : World), F w → wpAnyLast Try.prog .any (opsOf Try.f5 20) Q F [] 29 (bits 46 131071) (act a ((103, .string (strOfNums zb)) :: (102, s) :: (100, .string (strOfNums zb)) :: (99, v12) :: (98, .agg (repC R.1 (.slice A5 R.1.ents.length k5))) :: (101, .agg zR) :: (97, .bool true) :: (96, .bool true) :: (95, .int .i64 R.2) :: [(94, .bool false)])) w := by
      intro s w HF
      refine pureS (i := 17) (n := 104) (v := .bool false) (bits 46 262143) hM (by rfl) hQ rfl rfl (any_of HT (by kernel_rfl)) rfl (fun w => r_neqS (strOfNums zb) (strOfNums zb) false rfl rfl rfl (by simp)) ?_
      refine pureS (i := 18) (n := 105) (v := .bool false) (bits 46 524287) hM (by rfl) hQ rfl rfl (any_of HT (by kernel_rfl)) rfl (fun w => r_pick true rfl rfl rfl) ?_
      refine pureS (i := 19) (n := 106) (v := .bool false) (bits 46 1048575) hM (by rfl) hQ rfl rfl (any_of HT (by kernel_rfl)) rfl (fun w => r_pick false rfl rfl rfl) ?_
      refine pureS (i := 20) (n := 107) (v := .bool false) (bits 46 2097151) hM (by rfl) hQ rfl rfl (any_of HT (by kernel_rfl)) rfl (fun w => r_move rfl rfl) ?_
      rw [rebase _ hM _ (by rfl) (n := 107) (by decide) rfl]; exact cont _ _ (Fr.act _ _ (by rfl)) HF
    refine twoVC (i := 13) (j := 15) (ni := 100) (nj := 102) (f := 22) (vi := .string (strOfNums zb)) (bits 46 32767) (bits 46 57343) hM (by rfl) rfl rfl rfl rfl (two_of HT (by kernel_rfl)) (by decide) (by decide) HF rfl (r_conv rfl rfl (RX.conv HV)) rfl rfl Try.func22 (by kernel_rfl) rfl #[.agg zR] (by simp only [List.map_toArray, List.map_cons, List.map_nil]; rfl) ?_ ?_
    · refine oneC (i := 15) (n := 102) (f := 22) (bits 46 65535) hM (by rfl) rfl rfl (one_of HT (by kernel_rfl)) (by decide) rfl rfl Try.func22 (by kernel_rfl) rfl #[.agg zR] (by simp only [List.map_toArray, List.map_cons, List.map_nil]; rfl) ?_
      refine (XCodecGets.calepinref15_Reply.calls 10 0 0 ⟨#[]⟩ none 0 [] ⟨#[]⟩ zb _ (Kd.C_nil _ _) (Nat.le_refl _) hzb).mono ?_
      rintro e w2 ⟨v15, rfl, ho, hb1⟩
      have HF1 := hFb _ _ HF hb1
      have HV1 := HV.below hb1
      have HU : RX (Kd.int .u8) 5 w2 v15 zb := ⟨_, ho⟩
      refine ⟨_, rfl, HF1, ?_⟩
      clear HF HV hb1 ho; have HF := HF1; have HV := HV1; clear HF1 HV1
      refine oneV (i := 16) (n := 103) (v := .string (strOfNums zb)) (bits 46 131071) hM (by rfl) rfl rfl (one_of HT (by kernel_rfl)) (by decide) rfl (r_conv rfl rfl (RX.conv HU)) HF ?_
      exact J v15 _ HF
    · refine (XCodecGets.calepinref15_Reply.calls 10 0 0 ⟨#[]⟩ none 0 [] ⟨#[]⟩ zb _ (Kd.C_nil _ _) (Nat.le_refl _) hzb).mono ?_
      rintro e w2 ⟨v15, rfl, ho, hb1⟩
      have HF1 := hFb _ _ HF hb1
      have HV1 := HV.below hb1
      have HU : RX (Kd.int .u8) 5 w2 v15 zb := ⟨_, ho⟩
      refine ⟨_, rfl, HF1, ?_⟩
      clear HF HV hb1 ho; have HF := HF1; have HV := HV1; clear HF1 HV1
      refine twoVV (i := 13) (j := 16) (ni := 100) (nj := 103) (vi := .string (strOfNums zb)) (vj := .string (strOfNums zb)) (bits 46 65535) (bits 46 122879) hM (by rfl) rfl rfl rfl rfl (two_of HT (by kernel_rfl)) (by decide) (by decide) HF rfl (r_conv rfl rfl (RX.conv HV)) rfl (r_conv rfl rfl (RX.conv HU)) ?_ ?_
      · refine oneV (i := 16) (n := 103) (v := .string (strOfNums zb)) (bits 46 131071) hM (by rfl) rfl rfl (one_of HT (by kernel_rfl)) (by decide) rfl (r_conv rfl rfl (RX.conv HU)) HF ?_
        rw [act_swap3]; exact J v15 _ HF
      · refine oneV (i := 13) (n := 100) (v := .string (strOfNums zb)) (bits 46 131071) hM (by rfl) rfl rfl (one_of HT (by kernel_rfl)) (by decide) rfl (r_conv rfl rfl (RX.conv HV)) HF ?_
        rw [act_turn3]; exact J v15 _ HF

set_option maxHeartbeats 4000000 in
theorem g20c {Q : Exit → Act → World → Prop} (hQ : PanicFree Q) {w0 : World} {b1 b2 b3 : Nat} {C : Cmd × Int} {R : Cr.Rep S93 × Int} {L : Log × Int} {A3 A5 A7 A8 : Option Addr} {k3 k5 k7 k8 : Nat} (F : World → Prop)
    (hK : ∀ W, F W → Kept w0 b1 b2 b3 C.1 R.1 L.1 A3 k3 A5 k5 A7 k7 A8 k8 W) (hFb : ∀ W W1, F W → Below W.heap.size W W1 → F W1)
    (hc : C.2 ≠ 0 → C.1 = zeroCmd) (hr : R.2 ≠ 0 → R.1 = ⟨0, 0, ⟨#[]⟩, [], ⟨#[]⟩⟩) (hl : L.2 ≠ 0 → L.1 = zeroLog) (a : Act) (hM : a.tmps.size = 203) (h4 : a.tmps.getD 4 undef = .pointer (some ⟨b1, 0, none⟩)) (h5 : a.tmps.getD 5 undef = .int .i64 C.2) (h6 : a.tmps.getD 6 undef = .pointer (some ⟨b2, 0, none⟩)) (h7 : a.tmps.getD 7 undef = .int .i64 R.2) (h8 : a.tmps.getD 8 undef = .pointer (some ⟨b3, 0, none⟩)) (h9 : a.tmps.getD 9 undef = .int .i64 L.2) (w : World) (HF : F w)
    (cont : ∀ a' w, Fr 87 132 a a' → a'.tmps.getD 132 undef = .bool false → F w → Q .normal a' w) :
    wpAnyLast Try.prog .any (opsOf Try.f5 20) Q F [] 25 (bits 46 2097151) (act a [(107, .bool false)]) w := by
  have HT := tab20
  have HB := bits20
  generalize hb : (L.2 != 0) = b
  refine pureS (i := 21) (n := 108) (v := .int .i64 L.2) (bits 46 4194303) hM (by rfl) hQ rfl rfl (any_of HT (by kernel_rfl)) rfl (fun w => r_move rfl h9) ?_
  refine pureS (i := 22) (n := 109) (v := .bool b) (bits 46 8388607) hM (by rfl) hQ rfl rfl (any_of HT (by kernel_rfl)) rfl (fun w => r_neqI .i64 L.2 0 b rfl rfl rfl hb) ?_
  refine pureS (i := 23) (n := 110) (v := .bool b) (bits 46 16777215) hM (by rfl) hQ rfl rfl (any_of HT (by kernel_rfl)) rfl (fun w => r_move rfl rfl) ?_
  cases b
  · refine offS (i := 24) (n := 111) (bits 46 33554431) hM (by rfl) hQ rfl rfl (any_of HT (by kernel_rfl)) rfl ?_
    refine offS (i := 25) (n := 112) (bits 46 67108863) hM (by rfl) hQ rfl rfl (any_of HT (by kernel_rfl)) rfl ?_
    refine offS (i := 26) (n := 113) (bits 46 134217727) hM (by rfl) hQ rfl rfl (any_of HT (by kernel_rfl)) rfl ?_
    refine offS (i := 27) (n := 114) (bits 46 268435455) hM (by rfl) hQ rfl rfl (any_of HT (by kernel_rfl)) rfl ?_
    refine offS (i := 28) (n := 115) (bits 46 536870911) hM (by rfl) hQ rfl rfl (any_of HT (by kernel_rfl)) rfl ?_
    refine offS (i := 29) (n := 116) (bits 46 1073741823) hM (by rfl) hQ rfl rfl (any_of HT (by kernel_rfl)) rfl ?_
    refine offS (i := 30) (n := 117) (bits 46 2147483647) hM (by rfl) hQ rfl rfl (any_of HT (by kernel_rfl)) rfl ?_
    refine offS (i := 31) (n := 118) (bits 46 4294967295) hM (by rfl) hQ rfl rfl (any_of HT (by kernel_rfl)) rfl ?_
    refine offS (i := 32) (n := 119) (bits 46 8589934591) hM (by rfl) hQ rfl rfl (any_of HT (by kernel_rfl)) rfl ?_
    refine offS (i := 33) (n := 120) (bits 46 17179869183) hM (by rfl) hQ rfl rfl (any_of HT (by kernel_rfl)) rfl ?_
    refine offS (i := 34) (n := 121) (bits 46 34359738367) hM (by rfl) hQ rfl rfl (any_of HT (by kernel_rfl)) rfl ?_
    refine offS (i := 35) (n := 122) (bits 46 68719476735) hM (by rfl) hQ rfl rfl (any_of HT (by kernel_rfl)) rfl ?_
    refine offS (i := 36) (n := 123) (bits 46 137438953471) hM (by rfl) hQ rfl rfl (any_of HT (by kernel_rfl)) rfl ?_
    refine offS (i := 37) (n := 124) (bits 46 274877906943) hM (by rfl) hQ rfl rfl (any_of HT (by kernel_rfl)) rfl ?_
    refine offS (i := 38) (n := 125) (bits 46 549755813887) hM (by rfl) hQ rfl rfl (any_of HT (by kernel_rfl)) rfl ?_
    refine offS (i := 39) (n := 126) (bits 46 1099511627775) hM (by rfl) hQ rfl rfl (any_of HT (by kernel_rfl)) rfl ?_
    refine offS (i := 40) (n := 127) (bits 46 2199023255551) hM (by rfl) hQ rfl rfl (any_of HT (by kernel_rfl)) rfl ?_
    refine offS (i := 41) (n := 128) (bits 46 4398046511103) hM (by rfl) hQ rfl rfl (any_of HT (by kernel_rfl)) rfl ?_
    refine offS (i := 42) (n := 129) (bits 46 8796093022207) hM (by rfl) hQ rfl rfl (any_of HT (by kernel_rfl)) rfl ?_
    refine offS (i := 43) (n := 130) (bits 46 17592186044415) hM (by rfl) hQ rfl rfl (any_of HT (by kernel_rfl)) rfl ?_
    refine pureS (i := 44) (n := 131) (v := .bool false) (bits 46 35184372088831) hM (by rfl) hQ rfl rfl (any_of HT (by kernel_rfl)) rfl (fun w => r_pick false rfl rfl rfl) ?_
    refine pureS (i := 45) (n := 132) (v := .bool false) (bits 46 70368744177663) hM (by rfl) hQ rfl rfl (any_of HT (by kernel_rfl)) rfl (fun w => r_pick false rfl rfl rfl) ?_
    refine done_ (done_of HT (by kernel_rfl)) ?_; exact cont _ _ (Fr.act _ _ (by rfl)) (look_get _ hM _ (by rfl) (by decide) rfl) HF
  · have hz := hl (by simpa using hb)
    refine pureS (i := 24) (n := 111) (v := .pointer (some ⟨b3, 2, none⟩)) (bits 46 33554431) hM (by rfl) hQ rfl rfl (any_of HT (by kernel_rfl)) rfl (fun w => r_field rfl h8 (by kernel_rfl)) ?_
    refine oneV (i := 25) (n := 112) (v := .agg (cmdC L.1.cmd A7 k7)) (bits 46 67108863) hM (by rfl) rfl rfl (one_of HT (by kernel_rfl)) (by decide) rfl (r_load rfl rfl (logCmd (hK _ HF).x3)) HF ?_
    refine oneC (i := 26) (n := 113) (f := 21) (bits 46 134217727) hM (by rfl) rfl rfl (one_of HT (by kernel_rfl)) (by decide) rfl rfl Try.func21 (by kernel_rfl) rfl #[.agg (cmdC L.1.cmd A7 k7)] (by simp only [List.map_toArray, List.map_cons, List.map_nil]; rfl) ?_
    refine (XCodecGets.calepinref15_Zero.calls L.1.cmd.op L.1.cmd.book L.1.cmd.name L.1.cmd.data L.1.cmd.mat L.1.cmd.non L.1.cmd.token A7 k7 L.1.cmd.names L.1.cmd.at_ L.1.cmd.session L.1.cmd.seq true _ (RX.c (hK _ HF).n7) (RX.le (hK _ HF).n7) (zeroC _ (by rw [hz]; rfl))).mono ?_
    rintro e w1 ⟨rfl, hb1⟩
    have HF1 := hFb _ _ HF hb1
    refine ⟨_, rfl, HF1, ?_⟩
    clear HF hb1; have HF := HF1; clear HF1
    refine pureS (i := 27) (n := 114) (v := .bool false) (bits 46 268435455) hM (by rfl) hQ rfl rfl (any_of HT (by kernel_rfl)) rfl (fun w => r_not true rfl rfl) ?_
    refine pureS (i := 28) (n := 115) (v := .bool false) (bits 46 536870911) hM (by rfl) hQ rfl rfl (any_of HT (by kernel_rfl)) rfl (fun w => r_move rfl rfl) ?_
    refine pureS (i := 29) (n := 116) (v := .pointer (some ⟨b3, 0, none⟩)) (bits 46 1073741823) hM (by rfl) hQ rfl rfl (any_of HT (by kernel_rfl)) rfl (fun w => r_field rfl h8 (by kernel_rfl)) ?_
    refine oneV (i := 30) (n := 117) (v := .int .i64 0) (bits 46 2147483647) hM (by rfl) rfl rfl (one_of HT (by kernel_rfl)) (by decide) rfl (r_load rfl rfl (logCell (hK _ HF).x3 0 (by rw [hz]; rfl) (by kernel_rfl))) HF ?_
    refine pureS (i := 31) (n := 118) (v := .bool false) (bits 46 4294967295) hM (by rfl) hQ rfl rfl (any_of HT (by kernel_rfl)) rfl (fun w => r_neqI .i64 0 0 false rfl rfl rfl rfl) ?_
    refine pureS (i := 32) (n := 119) (v := .bool false) (bits 46 8589934591) hM (by rfl) hQ rfl rfl (any_of HT (by kernel_rfl)) rfl (fun w => r_pick false rfl rfl rfl) ?_
    refine pureS (i := 33) (n := 120) (v := .bool false) (bits 46 17179869183) hM (by rfl) hQ rfl rfl (any_of HT (by kernel_rfl)) rfl (fun w => r_move rfl rfl) ?_
    refine pureS (i := 34) (n := 121) (v := .pointer (some ⟨b3, 1, none⟩)) (bits 46 34359738367) hM (by rfl) hQ rfl rfl (any_of HT (by kernel_rfl)) rfl (fun w => r_field rfl h8 (by kernel_rfl)) ?_
    refine oneV (i := 35) (n := 122) (v := .int .i64 0) (bits 46 68719476735) hM (by rfl) rfl rfl (one_of HT (by kernel_rfl)) (by decide) rfl (r_load rfl rfl (logCell (hK _ HF).x3 1 (by rw [hz]; rfl) (by kernel_rfl))) HF ?_
    refine pureS (i := 36) (n := 123) (v := .bool false) (bits 46 137438953471) hM (by rfl) hQ rfl rfl (any_of HT (by kernel_rfl)) rfl (fun w => r_neqI .i64 0 0 false rfl rfl rfl rfl) ?_
    refine pureS (i := 37) (n := 124) (v := .bool false) (bits 46 274877906943) hM (by rfl) hQ rfl rfl (any_of HT (by kernel_rfl)) rfl (fun w => r_pick false rfl rfl rfl) ?_
    refine pureS (i := 38) (n := 125) (v := .bool false) (bits 46 549755813887) hM (by rfl) hQ rfl rfl (any_of HT (by kernel_rfl)) rfl (fun w => r_move rfl rfl) ?_
    refine pureS (i := 39) (n := 126) (v := .pointer (some ⟨b3, 13, none⟩)) (bits 46 1099511627775) hM (by rfl) hQ rfl rfl (any_of HT (by kernel_rfl)) rfl (fun w => r_field rfl h8 (by kernel_rfl)) ?_
    refine oneV (i := 40) (n := 127) (v := .slice A8 0 k8) (bits 46 2199023255551) hM (by rfl) rfl rfl (one_of HT (by kernel_rfl)) (by decide) rfl (r_load rfl rfl (logCell (hK _ HF).x3 13 (by rw [hz]; rfl) (by kernel_rfl))) HF ?_
    refine pureS (i := 41) (n := 128) (v := .int .i64 0) (bits 46 4398046511103) hM (by rfl) hQ rfl rfl (any_of HT (by kernel_rfl)) rfl (fun w => r_len rfl rfl Try.underlying36) ?_
    refine pureS (i := 42) (n := 129) (v := .bool false) (bits 46 8796093022207) hM (by rfl) hQ rfl rfl (any_of HT (by kernel_rfl)) rfl (fun w => r_neqI .i64 0 0 false rfl rfl rfl rfl) ?_
    refine pureS (i := 43) (n := 130) (v := .bool false) (bits 46 17592186044415) hM (by rfl) hQ rfl rfl (any_of HT (by kernel_rfl)) rfl (fun w => r_pick false rfl rfl rfl) ?_
    refine pureS (i := 44) (n := 131) (v := .bool false) (bits 46 35184372088831) hM (by rfl) hQ rfl rfl (any_of HT (by kernel_rfl)) rfl (fun w => r_pick true rfl rfl rfl) ?_
    refine pureS (i := 45) (n := 132) (v := .bool false) (bits 46 70368744177663) hM (by rfl) hQ rfl rfl (any_of HT (by kernel_rfl)) rfl (fun w => r_pick false rfl rfl rfl) ?_
    refine done_ (done_of HT (by kernel_rfl)) ?_; exact cont _ _ (Fr.act _ _ (by rfl)) (look_get _ hM _ (by rfl) (by decide) rfl) HF

theorem g20 {Q : Exit → Act → World → Prop} (hQ : PanicFree Q) {w0 : World} {b1 b2 b3 : Nat} {C : Cmd × Int} {R : Cr.Rep S93 × Int} {L : Log × Int} {A3 A5 A7 A8 : Option Addr} {k3 k5 k7 k8 : Nat} (F : World → Prop)
    (hK : ∀ W, F W → Kept w0 b1 b2 b3 C.1 R.1 L.1 A3 k3 A5 k5 A7 k7 A8 k8 W) (hFb : ∀ W W1, F W → Below W.heap.size W W1 → F W1)
    (hc : C.2 ≠ 0 → C.1 = zeroCmd) (hr : R.2 ≠ 0 → R.1 = ⟨0, 0, ⟨#[]⟩, [], ⟨#[]⟩⟩) (hl : L.2 ≠ 0 → L.1 = zeroLog) (a : Act) (hM : a.tmps.size = 203) (h4 : a.tmps.getD 4 undef = .pointer (some ⟨b1, 0, none⟩)) (h5 : a.tmps.getD 5 undef = .int .i64 C.2) (h6 : a.tmps.getD 6 undef = .pointer (some ⟨b2, 0, none⟩)) (h7 : a.tmps.getD 7 undef = .int .i64 R.2) (h8 : a.tmps.getD 8 undef = .pointer (some ⟨b3, 0, none⟩)) (h9 : a.tmps.getD 9 undef = .int .i64 L.2) (w : World) (HF : F w)
    (cont : ∀ a' w, Fr 87 132 a a' → a'.tmps.getD 132 undef = .bool false → F w → Q .normal a' w) : (Code.region 20 (opsOf Try.f5 20) true).wp Try.prog Q a w := by
  refine start_ (n := 46) (S := F) (ds := []) (bits 46 0) (by kernel_rfl) (by kernel_rfl) (by kernel_rfl) (hFb _ _ HF (below_drew (Below.refl _ _))) (fun HF => ?_)
  refine g20a hQ F hK hFb hc hr hl a hM h4 h5 h6 h7 h8 h9 _ HF (fun a1 w1 f1 HF => ?_)
  refine g20b hQ F hK hFb hc hr hl a1 (f1.sz.trans hM) ((f1.eq 4 (by decide)).trans h4) ((f1.eq 5 (by decide)).trans h5) ((f1.eq 6 (by decide)).trans h6) ((f1.eq 7 (by decide)).trans h7) ((f1.eq 8 (by decide)).trans h8) ((f1.eq 9 (by decide)).trans h9) _ HF (fun a2 w2 f2 HF => ?_)
  have f2 := f1.trans f2
  refine g20c hQ F hK hFb hc hr hl a2 (f2.sz.trans hM) ((f2.eq 4 (by decide)).trans h4) ((f2.eq 5 (by decide)).trans h5) ((f2.eq 6 (by decide)).trans h6) ((f2.eq 7 (by decide)).trans h7) ((f2.eq 8 (by decide)).trans h8) ((f2.eq 9 (by decide)).trans h9) _ HF (fun a3 w3 f3 h HF => ?_)
  exact cont _ _ (f2.trans f3) h HF

set_option maxHeartbeats 4000000 in
theorem g22a {Q : Exit → Act → World → Prop} (hQ : PanicFree Q) {w0 : World} {b1 b2 b3 d1 d2 d3 : Nat} {C : Cmd × Int} {R : Cr.Rep S93 × Int} {L : Log × Int} {X : Cmd} {Y : Cr.Rep S93} {Z : Log} {A3 A5 A7 A8 B3 B5 B7 B8 A0 : Option Addr} {k3 k5 k7 k8 m3 m5 m7 m8 c0 : Nat} {xs : List Int} (F : World → Prop)
    (hK : ∀ W, F W → Kept w0 b1 b2 b3 C.1 R.1 L.1 A3 k3 A5 k5 A7 k7 A8 k8 W) (hG : ∀ W, F W → Kept w0 d1 d2 d3 X Y Z B3 m3 B5 m5 B7 m7 B8 m8 W) (hX : ∀ W, F W → Kd.C (Kd.int .u8) W A0 xs.length xs) (hFb : ∀ W W1, F W → Below W.heap.size W W1 → F W1)
    (hc : C.2 = 0 → ∃ k, XCodecGets.calepinref15_Command.f k C.1.op C.1.book C.1.name C.1.data C.1.mat C.1.non C.1.token C.1.names C.1.at_ C.1.session C.1.seq = some xs ∧ XCodecGets.calepinref15_Command.f k X.op X.book X.name X.data X.mat X.non X.token X.names X.at_ X.session X.seq = some xs)
    (hr : R.2 = 0 → ∃ k, XCodecGets.calepinref15_Reply.f k R.1.st R.1.tag R.1.data R.1.ents R.1.token = some xs ∧ XCodecGets.calepinref15_Reply.f k Y.st Y.tag Y.data Y.ents Y.token = some xs) (a : Act) (hM : a.tmps.size = 203) (h0 : a.tmps.getD 0 undef = .slice A0 xs.length c0) (h4 : a.tmps.getD 4 undef = .pointer (some ⟨b1, 0, none⟩)) (h5 : a.tmps.getD 5 undef = .int .i64 C.2) (h6 : a.tmps.getD 6 undef = .pointer (some ⟨b2, 0, none⟩)) (h7 : a.tmps.getD 7 undef = .int .i64 R.2) (h14 : a.tmps.getD 14 undef = .pointer (some ⟨d1, 0, none⟩)) (h15 : a.tmps.getD 15 undef = .pointer (some ⟨d2, 0, none⟩)) (w : World) (HF : F w)
    (cont : ∀ a' w, Fr 133 170 a a' → F w → wpAnyLast Try.prog .any (opsOf Try.f5 22) Q F [] 19 (bits 38 524287) (act a' [(151, .bool false)]) w) :
    wpAnyLast Try.prog .any (opsOf Try.f5 22) Q F [] 38 (bits 38 0) (act a []) w := by
  have HT := tab22
  have HB := bits22
  generalize hb : (C.2 == 0) = b
  refine pureS (i := 0) (n := 133) (v := .int .i64 C.2) (bits 38 1) hM (by rfl) hQ rfl rfl (any_of HT (by kernel_rfl)) rfl (fun w => r_move rfl h5) ?_
  refine pureS (i := 1) (n := 134) (v := .bool b) (bits 38 3) hM (by rfl) hQ rfl rfl (any_of HT (by kernel_rfl)) rfl (fun w => r_eqlI .i64 C.2 0 b rfl rfl rfl hb) ?_
  refine pureS (i := 2) (n := 135) (v := .bool b) (bits 38 7) hM (by rfl) hQ rfl rfl (any_of HT (by kernel_rfl)) rfl (fun w => r_move rfl rfl) ?_
  cases b
  · refine offS (i := 3) (n := 136) (bits 38 15) hM (by rfl) hQ rfl rfl (any_of HT (by kernel_rfl)) rfl ?_
    refine offS (i := 4) (n := 137) (bits 38 31) hM (by rfl) hQ rfl rfl (any_of HT (by kernel_rfl)) rfl ?_
    refine offS (i := 5) (n := 138) (bits 38 63) hM (by rfl) hQ rfl rfl (any_of HT (by kernel_rfl)) rfl ?_
    refine offS (i := 6) (n := 139) (bits 38 127) hM (by rfl) hQ rfl rfl (any_of HT (by kernel_rfl)) rfl ?_
    refine offS (i := 7) (n := 140) (bits 38 255) hM (by rfl) hQ rfl rfl (any_of HT (by kernel_rfl)) rfl ?_
    refine offS (i := 8) (n := 141) (bits 38 511) hM (by rfl) hQ rfl rfl (any_of HT (by kernel_rfl)) rfl ?_
    refine offS (i := 9) (n := 142) (bits 38 1023) hM (by rfl) hQ rfl rfl (any_of HT (by kernel_rfl)) rfl ?_
    refine offS (i := 10) (n := 143) (bits 38 2047) hM (by rfl) hQ rfl rfl (any_of HT (by kernel_rfl)) rfl ?_
    refine offS (i := 11) (n := 144) (bits 38 4095) hM (by rfl) hQ rfl rfl (any_of HT (by kernel_rfl)) rfl ?_
    refine offS (i := 12) (n := 145) (bits 38 8191) hM (by rfl) hQ rfl rfl (any_of HT (by kernel_rfl)) rfl ?_
    refine offS (i := 13) (n := 146) (bits 38 16383) hM (by rfl) hQ rfl rfl (any_of HT (by kernel_rfl)) rfl ?_
    refine offS (i := 14) (n := 147) (bits 38 32767) hM (by rfl) hQ rfl rfl (any_of HT (by kernel_rfl)) rfl ?_
    refine offS (i := 15) (n := 148) (bits 38 65535) hM (by rfl) hQ rfl rfl (any_of HT (by kernel_rfl)) rfl ?_
    refine offS (i := 16) (n := 149) (bits 38 131071) hM (by rfl) hQ rfl rfl (any_of HT (by kernel_rfl)) rfl ?_
    refine pureS (i := 17) (n := 150) (v := .bool false) (bits 38 262143) hM (by rfl) hQ rfl rfl (any_of HT (by kernel_rfl)) rfl (fun w => r_pick false rfl rfl rfl) ?_
    refine pureS (i := 18) (n := 151) (v := .bool false) (bits 38 524287) hM (by rfl) hQ rfl rfl (any_of HT (by kernel_rfl)) rfl (fun w => r_move rfl rfl) ?_
    rw [rebase _ hM _ (by rfl) (n := 151) (by decide) rfl]; exact cont _ _ (Fr.act _ _ (by rfl)) HF
  · obtain ⟨k, hk1, hk2⟩ := hc (by simpa using hb)
    refine pureS (i := 6) (n := 139) (v := .slice A0 xs.length c0) (bits 38 71) hM (by rfl) hQ rfl rfl (any_of HT (by kernel_rfl)) rfl (fun w => r_move rfl h0) ?_
    refine takeS (i := 7) (n := 140) (v := .string (strOfNums xs)) (bits 38 199) hM (by rfl) hQ rfl rfl (take_ofW HT HB (by kernel_rfl)) rfl HF (fun w HF => r_conv rfl rfl (Kd.C_string (P := Try.prog) Try.underlying27 Try.underlying5 Try.underlying9 (hX _ HF))) ?_
    refine oneV (i := 3) (n := 136) (v := .agg (cmdC C.1 A3 k3)) (bits 38 207) hM (by rfl) rfl rfl (one_of HT (by kernel_rfl)) (by decide) rfl (r_load_blk rfl h4 (hK _ HF).x1 Try.underlying25 rfl infoC) HF ?_
    refine oneC (i := 4) (n := 137) (f := 23) (bits 38 223) hM (by rfl) rfl rfl (one_of HT (by kernel_rfl)) (by decide) rfl rfl Try.func23 (by kernel_rfl) rfl #[.agg (cmdC C.1 A3 k3)] (by simp only [List.map_toArray, List.map_cons, List.map_nil]; rfl) ?_
    refine (XCodecGets.calepinref15_Command.calls k C.1.op C.1.book C.1.name C.1.data C.1.mat C.1.non C.1.token A3 k3 C.1.names C.1.at_ C.1.session C.1.seq xs _ (RX.c (hK _ HF).n3) (RX.le (hK _ HF).n3) hk1).mono ?_
    rintro e w1 ⟨v, rfl, ho, hb1⟩
    have HF1 := hFb _ _ HF hb1
    have HV : RX (Kd.int .u8) 5 w1 v xs := ⟨_, ho⟩
    refine ⟨_, rfl, HF1, ?_⟩
    clear HF hb1 ho; have HF := HF1; clear HF1
    refine oneV (i := 5) (n := 138) (v := .string (strOfNums xs)) (bits 38 255) hM (by rfl) rfl rfl (one_of HT (by kernel_rfl)) (by decide) rfl (r_conv rfl rfl (RX.conv HV)) HF ?_
    clear HV
    refine pureS (i := 8) (n := 141) (v := .bool false) (bits 38 511) hM (by rfl) hQ rfl rfl (any_of HT (by kernel_rfl)) rfl (fun w => r_neqS (strOfNums xs) (strOfNums xs) false rfl rfl rfl (by simp)) ?_
    refine pureS (i := 9) (n := 142) (v := .bool false) (bits 38 1023) hM (by rfl) hQ rfl rfl (any_of HT (by kernel_rfl)) rfl (fun w => r_move rfl rfl) ?_
    refine pureS (i := 13) (n := 146) (v := .slice A0 xs.length c0) (bits 38 9215) hM (by rfl) hQ rfl rfl (any_of HT (by kernel_rfl)) rfl (fun w => r_move rfl h0) ?_
    refine takeS (i := 14) (n := 147) (v := .string (strOfNums xs)) (bits 38 25599) hM (by rfl) hQ rfl rfl (take_ofW HT HB (by kernel_rfl)) rfl HF (fun w HF => r_conv rfl rfl (Kd.C_string (P := Try.prog) Try.underlying27 Try.underlying5 Try.underlying9 (hX _ HF))) ?_
    refine oneV (i := 10) (n := 143) (v := .agg (cmdC X B3 m3)) (bits 38 26623) hM (by rfl) rfl rfl (one_of HT (by kernel_rfl)) (by decide) rfl (r_load_blk rfl h14 (hG _ HF).x1 Try.underlying25 rfl infoC) HF ?_
    refine oneC (i := 11) (n := 144) (f := 23) (bits 38 28671) hM (by rfl) rfl rfl (one_of HT (by kernel_rfl)) (by decide) rfl rfl Try.func23 (by kernel_rfl) rfl #[.agg (cmdC X B3 m3)] (by simp only [List.map_toArray, List.map_cons, List.map_nil]; rfl) ?_
    refine (XCodecGets.calepinref15_Command.calls k X.op X.book X.name X.data X.mat X.non X.token B3 m3 X.names X.at_ X.session X.seq xs _ (RX.c (hG _ HF).n3) (RX.le (hG _ HF).n3) hk2).mono ?_
    rintro e w1 ⟨v, rfl, ho, hb1⟩
    have HF1 := hFb _ _ HF hb1
    have HV : RX (Kd.int .u8) 5 w1 v xs := ⟨_, ho⟩
    refine ⟨_, rfl, HF1, ?_⟩
    clear HF hb1 ho; have HF := HF1; clear HF1
    refine oneV (i := 12) (n := 145) (v := .string (strOfNums xs)) (bits 38 32767) hM (by rfl) rfl rfl (one_of HT (by kernel_rfl)) (by decide) rfl (r_conv rfl rfl (RX.conv HV)) HF ?_
    clear HV
    refine pureS (i := 15) (n := 148) (v := .bool false) (bits 38 65535) hM (by rfl) hQ rfl rfl (any_of HT (by kernel_rfl)) rfl (fun w => r_neqS (strOfNums xs) (strOfNums xs) false rfl rfl rfl (by simp)) ?_
    refine pureS (i := 16) (n := 149) (v := .bool false) (bits 38 131071) hM (by rfl) hQ rfl rfl (any_of HT (by kernel_rfl)) rfl (fun w => r_pick false rfl rfl rfl) ?_
    refine pureS (i := 17) (n := 150) (v := .bool false) (bits 38 262143) hM (by rfl) hQ rfl rfl (any_of HT (by kernel_rfl)) rfl (fun w => r_pick true rfl rfl rfl) ?_
    refine pureS (i := 18) (n := 151) (v := .bool false) (bits 38 524287) hM (by rfl) hQ rfl rfl (any_of HT (by kernel_rfl)) rfl (fun w => r_move rfl rfl) ?_
    rw [rebase _ hM _ (by rfl) (n := 151) (by decide) rfl]; exact cont _ _ (Fr.act _ _ (by rfl)) HF

set_option maxHeartbeats 4000000 in
theorem g22b {Q : Exit → Act → World → Prop} (hQ : PanicFree Q) {w0 : World} {b1 b2 b3 d1 d2 d3 : Nat} {C : Cmd × Int} {R : Cr.Rep S93 × Int} {L : Log × Int} {X : Cmd} {Y : Cr.Rep S93} {Z : Log} {A3 A5 A7 A8 B3 B5 B7 B8 A0 : Option Addr} {k3 k5 k7 k8 m3 m5 m7 m8 c0 : Nat} {xs : List Int} (F : World → Prop)
    (hK : ∀ W, F W → Kept w0 b1 b2 b3 C.1 R.1 L.1 A3 k3 A5 k5 A7 k7 A8 k8 W) (hG : ∀ W, F W → Kept w0 d1 d2 d3 X Y Z B3 m3 B5 m5 B7 m7 B8 m8 W) (hX : ∀ W, F W → Kd.C (Kd.int .u8) W A0 xs.length xs) (hFb : ∀ W W1, F W → Below W.heap.size W W1 → F W1)
    (hc : C.2 = 0 → ∃ k, XCodecGets.calepinref15_Command.f k C.1.op C.1.book C.1.name C.1.data C.1.mat C.1.non C.1.token C.1.names C.1.at_ C.1.session C.1.seq = some xs ∧ XCodecGets.calepinref15_Command.f k X.op X.book X.name X.data X.mat X.non X.token X.names X.at_ X.session X.seq = some xs)
    (hr : R.2 = 0 → ∃ k, XCodecGets.calepinref15_Reply.f k R.1.st R.1.tag R.1.data R.1.ents R.1.token = some xs ∧ XCodecGets.calepinref15_Reply.f k Y.st Y.tag Y.data Y.ents Y.token = some xs) (a : Act) (hM : a.tmps.size = 203) (h0 : a.tmps.getD 0 undef = .slice A0 xs.length c0) (h4 : a.tmps.getD 4 undef = .pointer (some ⟨b1, 0, none⟩)) (h5 : a.tmps.getD 5 undef = .int .i64 C.2) (h6 : a.tmps.getD 6 undef = .pointer (some ⟨b2, 0, none⟩)) (h7 : a.tmps.getD 7 undef = .int .i64 R.2) (h14 : a.tmps.getD 14 undef = .pointer (some ⟨d1, 0, none⟩)) (h15 : a.tmps.getD 15 undef = .pointer (some ⟨d2, 0, none⟩)) (w : World) (HF : F w)
    (cont : ∀ a' w, Fr 133 170 a a' → a'.tmps.getD 170 undef = .bool false → F w → Q .normal a' w) :
    wpAnyLast Try.prog .any (opsOf Try.f5 22) Q F [] 19 (bits 38 524287) (act a [(151, .bool false)]) w := by
  have HT := tab22
  have HB := bits22
  generalize hb : (R.2 == 0) = b
  refine pureS (i := 19) (n := 152) (v := .int .i64 R.2) (bits 38 1048575) hM (by rfl) hQ rfl rfl (any_of HT (by kernel_rfl)) rfl (fun w => r_move rfl h7) ?_
  refine pureS (i := 20) (n := 153) (v := .bool b) (bits 38 2097151) hM (by rfl) hQ rfl rfl (any_of HT (by kernel_rfl)) rfl (fun w => r_eqlI .i64 R.2 0 b rfl rfl rfl hb) ?_
  refine pureS (i := 21) (n := 154) (v := .bool b) (bits 38 4194303) hM (by rfl) hQ rfl rfl (any_of HT (by kernel_rfl)) rfl (fun w => r_move rfl rfl) ?_
  cases b
  · refine offS (i := 22) (n := 155) (bits 38 8388607) hM (by rfl) hQ rfl rfl (any_of HT (by kernel_rfl)) rfl ?_
    refine offS (i := 23) (n := 156) (bits 38 16777215) hM (by rfl) hQ rfl rfl (any_of HT (by kernel_rfl)) rfl ?_
    refine offS (i := 24) (n := 157) (bits 38 33554431) hM (by rfl) hQ rfl rfl (any_of HT (by kernel_rfl)) rfl ?_
    refine offS (i := 25) (n := 158) (bits 38 67108863) hM (by rfl) hQ rfl rfl (any_of HT (by kernel_rfl)) rfl ?_
    refine offS (i := 26) (n := 159) (bits 38 134217727) hM (by rfl) hQ rfl rfl (any_of HT (by kernel_rfl)) rfl ?_
    refine offS (i := 27) (n := 160) (bits 38 268435455) hM (by rfl) hQ rfl rfl (any_of HT (by kernel_rfl)) rfl ?_
    refine offS (i := 28) (n := 161) (bits 38 536870911) hM (by rfl) hQ rfl rfl (any_of HT (by kernel_rfl)) rfl ?_
    refine offS (i := 29) (n := 162) (bits 38 1073741823) hM (by rfl) hQ rfl rfl (any_of HT (by kernel_rfl)) rfl ?_
    refine offS (i := 30) (n := 163) (bits 38 2147483647) hM (by rfl) hQ rfl rfl (any_of HT (by kernel_rfl)) rfl ?_
    refine offS (i := 31) (n := 164) (bits 38 4294967295) hM (by rfl) hQ rfl rfl (any_of HT (by kernel_rfl)) rfl ?_
    refine offS (i := 32) (n := 165) (bits 38 8589934591) hM (by rfl) hQ rfl rfl (any_of HT (by kernel_rfl)) rfl ?_
    refine offS (i := 33) (n := 166) (bits 38 17179869183) hM (by rfl) hQ rfl rfl (any_of HT (by kernel_rfl)) rfl ?_
    refine offS (i := 34) (n := 167) (bits 38 34359738367) hM (by rfl) hQ rfl rfl (any_of HT (by kernel_rfl)) rfl ?_
    refine offS (i := 35) (n := 168) (bits 38 68719476735) hM (by rfl) hQ rfl rfl (any_of HT (by kernel_rfl)) rfl ?_
    refine pureS (i := 36) (n := 169) (v := .bool false) (bits 38 137438953471) hM (by rfl) hQ rfl rfl (any_of HT (by kernel_rfl)) rfl (fun w => r_pick false rfl rfl rfl) ?_
    refine pureS (i := 37) (n := 170) (v := .bool false) (bits 38 274877906943) hM (by rfl) hQ rfl rfl (any_of HT (by kernel_rfl)) rfl (fun w => r_pick false rfl rfl rfl) ?_
    refine done_ (done_of HT (by kernel_rfl)) ?_; exact cont _ _ (Fr.act _ _ (by rfl)) (look_get _ hM _ (by rfl) (by decide) rfl) HF
  · obtain ⟨k, hk1, hk2⟩ := hr (by simpa using hb)
    refine pureS (i := 25) (n := 158) (v := .slice A0 xs.length c0) (bits 38 37748735) hM (by rfl) hQ rfl rfl (any_of HT (by kernel_rfl)) rfl (fun w => r_move rfl h0) ?_
    refine takeS (i := 26) (n := 159) (v := .string (strOfNums xs)) (bits 38 104857599) hM (by rfl) hQ rfl rfl (take_ofW HT HB (by kernel_rfl)) rfl HF (fun w HF => r_conv rfl rfl (Kd.C_string (P := Try.prog) Try.underlying27 Try.underlying5 Try.underlying9 (hX _ HF))) ?_
    refine oneV (i := 22) (n := 155) (v := .agg (repC R.1 (.slice A5 R.1.ents.length k5))) (bits 38 109051903) hM (by rfl) rfl rfl (one_of HT (by kernel_rfl)) (by decide) rfl (r_load_blk rfl h6 (hK _ HF).x2 Try.underlying45 rfl infoR) HF ?_
    refine oneC (i := 23) (n := 156) (f := 22) (bits 38 117440511) hM (by rfl) rfl rfl (one_of HT (by kernel_rfl)) (by decide) rfl rfl Try.func22 (by kernel_rfl) rfl #[.agg (repC R.1 (.slice A5 R.1.ents.length k5))] (by simp only [List.map_toArray, List.map_cons, List.map_nil]; rfl) ?_
    refine (XCodecGets.calepinref15_Reply.calls k R.1.st R.1.tag R.1.data A5 k5 R.1.ents R.1.token xs _ (RX.c (hK _ HF).n5) (RX.le (hK _ HF).n5) hk1).mono ?_
    rintro e w1 ⟨v, rfl, ho, hb1⟩
    have HF1 := hFb _ _ HF hb1
    have HV : RX (Kd.int .u8) 5 w1 v xs := ⟨_, ho⟩
    refine ⟨_, rfl, HF1, ?_⟩
    clear HF hb1 ho; have HF := HF1; clear HF1
    refine oneV (i := 24) (n := 157) (v := .string (strOfNums xs)) (bits 38 134217727) hM (by rfl) rfl rfl (one_of HT (by kernel_rfl)) (by decide) rfl (r_conv rfl rfl (RX.conv HV)) HF ?_
    clear HV
    refine pureS (i := 27) (n := 160) (v := .bool false) (bits 38 268435455) hM (by rfl) hQ rfl rfl (any_of HT (by kernel_rfl)) rfl (fun w => r_neqS (strOfNums xs) (strOfNums xs) false rfl rfl rfl (by simp)) ?_
    refine pureS (i := 28) (n := 161) (v := .bool false) (bits 38 536870911) hM (by rfl) hQ rfl rfl (any_of HT (by kernel_rfl)) rfl (fun w => r_move rfl rfl) ?_
    refine pureS (i := 32) (n := 165) (v := .slice A0 xs.length c0) (bits 38 4831838207) hM (by rfl) hQ rfl rfl (any_of HT (by kernel_rfl)) rfl (fun w => r_move rfl h0) ?_
    refine takeS (i := 33) (n := 166) (v := .string (strOfNums xs)) (bits 38 13421772799) hM (by rfl) hQ rfl rfl (take_ofW HT HB (by kernel_rfl)) rfl HF (fun w HF => r_conv rfl rfl (Kd.C_string (P := Try.prog) Try.underlying27 Try.underlying5 Try.underlying9 (hX _ HF))) ?_
    refine oneV (i := 29) (n := 162) (v := .agg (repC Y (.slice B5 Y.ents.length m5))) (bits 38 13958643711) hM (by rfl) rfl rfl (one_of HT (by kernel_rfl)) (by decide) rfl (r_load_blk rfl h15 (hG _ HF).x2 Try.underlying45 rfl infoR) HF ?_
    refine oneC (i := 30) (n := 163) (f := 22) (bits 38 15032385535) hM (by rfl) rfl rfl (one_of HT (by kernel_rfl)) (by decide) rfl rfl Try.func22 (by kernel_rfl) rfl #[.agg (repC Y (.slice B5 Y.ents.length m5))] (by simp only [List.map_toArray, List.map_cons, List.map_nil]; rfl) ?_
    refine (XCodecGets.calepinref15_Reply.calls k Y.st Y.tag Y.data B5 m5 Y.ents Y.token xs _ (RX.c (hG _ HF).n5) (RX.le (hG _ HF).n5) hk2).mono ?_
    rintro e w1 ⟨v, rfl, ho, hb1⟩
    have HF1 := hFb _ _ HF hb1
    have HV : RX (Kd.int .u8) 5 w1 v xs := ⟨_, ho⟩
    refine ⟨_, rfl, HF1, ?_⟩
    clear HF hb1 ho; have HF := HF1; clear HF1
    refine oneV (i := 31) (n := 164) (v := .string (strOfNums xs)) (bits 38 17179869183) hM (by rfl) rfl rfl (one_of HT (by kernel_rfl)) (by decide) rfl (r_conv rfl rfl (RX.conv HV)) HF ?_
    clear HV
    refine pureS (i := 34) (n := 167) (v := .bool false) (bits 38 34359738367) hM (by rfl) hQ rfl rfl (any_of HT (by kernel_rfl)) rfl (fun w => r_neqS (strOfNums xs) (strOfNums xs) false rfl rfl rfl (by simp)) ?_
    refine pureS (i := 35) (n := 168) (v := .bool false) (bits 38 68719476735) hM (by rfl) hQ rfl rfl (any_of HT (by kernel_rfl)) rfl (fun w => r_pick false rfl rfl rfl) ?_
    refine pureS (i := 36) (n := 169) (v := .bool false) (bits 38 137438953471) hM (by rfl) hQ rfl rfl (any_of HT (by kernel_rfl)) rfl (fun w => r_pick true rfl rfl rfl) ?_
    refine pureS (i := 37) (n := 170) (v := .bool false) (bits 38 274877906943) hM (by rfl) hQ rfl rfl (any_of HT (by kernel_rfl)) rfl (fun w => r_pick false rfl rfl rfl) ?_
    refine done_ (done_of HT (by kernel_rfl)) ?_; exact cont _ _ (Fr.act _ _ (by rfl)) (look_get _ hM _ (by rfl) (by decide) rfl) HF

theorem g22 {Q : Exit → Act → World → Prop} (hQ : PanicFree Q) {w0 : World} {b1 b2 b3 d1 d2 d3 : Nat} {C : Cmd × Int} {R : Cr.Rep S93 × Int} {L : Log × Int} {X : Cmd} {Y : Cr.Rep S93} {Z : Log} {A3 A5 A7 A8 B3 B5 B7 B8 A0 : Option Addr} {k3 k5 k7 k8 m3 m5 m7 m8 c0 : Nat} {xs : List Int} (F : World → Prop)
    (hK : ∀ W, F W → Kept w0 b1 b2 b3 C.1 R.1 L.1 A3 k3 A5 k5 A7 k7 A8 k8 W) (hG : ∀ W, F W → Kept w0 d1 d2 d3 X Y Z B3 m3 B5 m5 B7 m7 B8 m8 W) (hX : ∀ W, F W → Kd.C (Kd.int .u8) W A0 xs.length xs) (hFb : ∀ W W1, F W → Below W.heap.size W W1 → F W1)
    (hc : C.2 = 0 → ∃ k, XCodecGets.calepinref15_Command.f k C.1.op C.1.book C.1.name C.1.data C.1.mat C.1.non C.1.token C.1.names C.1.at_ C.1.session C.1.seq = some xs ∧ XCodecGets.calepinref15_Command.f k X.op X.book X.name X.data X.mat X.non X.token X.names X.at_ X.session X.seq = some xs)
    (hr : R.2 = 0 → ∃ k, XCodecGets.calepinref15_Reply.f k R.1.st R.1.tag R.1.data R.1.ents R.1.token = some xs ∧ XCodecGets.calepinref15_Reply.f k Y.st Y.tag Y.data Y.ents Y.token = some xs) (a : Act) (hM : a.tmps.size = 203) (h0 : a.tmps.getD 0 undef = .slice A0 xs.length c0) (h4 : a.tmps.getD 4 undef = .pointer (some ⟨b1, 0, none⟩)) (h5 : a.tmps.getD 5 undef = .int .i64 C.2) (h6 : a.tmps.getD 6 undef = .pointer (some ⟨b2, 0, none⟩)) (h7 : a.tmps.getD 7 undef = .int .i64 R.2) (h14 : a.tmps.getD 14 undef = .pointer (some ⟨d1, 0, none⟩)) (h15 : a.tmps.getD 15 undef = .pointer (some ⟨d2, 0, none⟩)) (w : World) (HF : F w)
    (cont : ∀ a' w, Fr 133 170 a a' → a'.tmps.getD 170 undef = .bool false → F w → Q .normal a' w) : (Code.region 22 (opsOf Try.f5 22) true).wp Try.prog Q a w := by
  refine start_ (n := 38) (S := F) (ds := []) (bits 38 0) (by kernel_rfl) (by kernel_rfl) (by kernel_rfl) (hFb _ _ HF (below_drew (Below.refl _ _))) (fun HF => ?_)
  refine g22a hQ F hK hG hX hFb hc hr a hM h0 h4 h5 h6 h7 h14 h15 _ HF (fun a1 w1 f1 HF => ?_)
  refine g22b hQ F hK hG hX hFb hc hr a1 (f1.sz.trans hM) ((f1.eq 0 (by decide)).trans h0) ((f1.eq 4 (by decide)).trans h4) ((f1.eq 5 (by decide)).trans h5) ((f1.eq 6 (by decide)).trans h6) ((f1.eq 7 (by decide)).trans h7) ((f1.eq 14 (by decide)).trans h14) ((f1.eq 15 (by decide)).trans h15) _ HF (fun a3 w3 f3 h HF => ?_)
  exact cont _ _ (f1.trans f3) h HF

end Go.Proofs.Ytjhcbggpbfejgaa.Gx
