/- http.Reason: a map literal of fourteen entries, looked up. -/
import Derived.Test.YtipfekjmcddelaaGreatDoorCo
import Derived.Maps.Own
import Derived.Maps.OwnSet
import Derived.Maps.Keyed
import Derived.KernelRfl
namespace Go.Proofs.YtipfekjmcddelaaGreatDoor
open Go.RowKit Go.Shelf Go.Lib Go.Joins Go.Maps Go.Proofs.YtipfekjmcddelaaGreatDoorW.zgo
set_option linter.unusedVariables false
set_option linter.unusedSimpArgs false
noncomputable abbrev RV : Value → Option (DataW Unit × List MemPlace) := plainElem Tryz.prog 9
theorem rv_str (s : ByteArray) (hs : s.size ≤ 1000) : RV (.string s) = some (.lit (.string s.data.toList), []) := by
  have : s.size ≤ maxLen := by simp only [maxLen]; omega
  simp [RV, plainElem, Tryz.underlying9, this]
set_option maxRecDepth 100000 in
theorem rv_inv {v : Value} {l : List UInt8} {ps : List MemPlace} (h : RV v = some (.lit (.string l), ps)) : v = .string ⟨l.toArray⟩ := by
  unfold RV plainElem at h
  rw [Tryz.underlying9] at h
  cases v with
  | string s =>
    dsimp only at h
    split at h
    · have h1 := (Prod.mk.inj (Option.some.inj h)).1
      have h2 : s.data.toList = l := by injection h1 with h1; injection h1
      rw [← h2, Lib.mk_data]
    · cases h
  | _ => cases h
theorem KI : Keyed Tryz.prog 3 := int_keyed Tryz.underlying3
theorem key_int (n : Int) (h : (Lit.int .i64 n).wf = true) : keyOf Tryz.prog 3 (.int .i64 n) = some (Lit.int .i64 n) := by
  simp [keyOf, mapKey, Tryz.underlying3, h]
section
variable {ops : Array Oper} {rest : List Oper} {o : Oper} {a : Act} {Q : Exit → Act → World → Prop}
/-- One entry of the literal. -/
theorem entry_event (w : World) (hg : o.guard = none) (m x v : Operand) (hop : o.op = Op.insert 72 m x v) (b n : Nat) (D : DataW Unit) (key : Int) (s : ByteArray)
    (hm : a.eval m = .map (some b)) (hx : a.eval x = .int .i64 key) (hv : a.eval v = .string s) (hk : (Lit.int .i64 key).wf = true) (hs : s.size ≤ 1000) (hn : n < 100)
    (hown : w.ownsMap Tryz.prog 3 RV b n D)
    (hK : ∀ w', w'.ownsMap Tryz.prog 3 RV b (n + 1) (D.put (Lit.int .i64 key) (.lit (.string s.data.toList))) → w.grownBy w' (some b) → wpList Tryz.prog ops Q rest (a.put o.dst undef) w') :
    wpList Tryz.prog ops Q (o :: rest) a w := by
  refine wpList_plain hg fun K' hK' => ?_
  obtain ⟨w', hrun, r1, r2⟩ := hown.update KI Tryz.underlying72 (by simp only [maxLen]; omega) (key_int key hk) (rv_str s hs)
  unfold Oper.wp
  simp [execOp, hop, hm, hx, hv, hrun, Result.andThen]
  exact hK' _ _ (hK w' r1 r2)
theorem look_event (w : World) (hg : o.guard = none) (m x : Operand) (hop : o.op = Op.lookup 72 m x true) (b n : Nat) (D : DataW Unit) (key : Int)
    (hm : a.eval m = .map (some b)) (hx : a.eval x = .int .i64 key) (hk : (Lit.int .i64 key).wf = true)
    (hown : w.ownsMap Tryz.prog 3 RV b n D)
    (hK : ∀ v ps, RV v = some (D.atKey (Lit.int .i64 key) (.lit (.string [])), ps) → wpList Tryz.prog ops Q rest (a.put o.dst (.tuple #[v, .bool (Maps.has D (Lit.int .i64 key))])) w) :
    wpList Tryz.prog ops Q (o :: rest) a w := by
  refine wpList_plain hg fun K' hK' => ?_
  obtain ⟨v, ps, hr, hv⟩ := hown.look_ok KI Tryz.underlying72 (Tryz.zeroValue9 _) (rv_str ByteArray.empty (by decide)) (key_int key hk)
  unfold Oper.wp
  simp [execOp, hop, hm, hx, hr, Result.andThen]
  exact hK' _ _ (hK v ps hv)
end
/-- The reason of a status. -/
def reasonV (n : Int) : ByteArray :=
  if n = 200 then ⟨#[79, 75]⟩
  else if n = 201 then ⟨#[67, 114, 101, 97, 116, 101, 100]⟩
  else if n = 204 then ⟨#[78, 111, 32, 67, 111, 110, 116, 101, 110, 116]⟩
  else if n = 207 then ⟨#[77, 117, 108, 116, 105, 45, 83, 116, 97, 116, 117, 115]⟩
  else if n = 400 then ⟨#[66, 97, 100, 32, 82, 101, 113, 117, 101, 115, 116]⟩
  else if n = 403 then ⟨#[70, 111, 114, 98, 105, 100, 100, 101, 110]⟩
  else if n = 404 then ⟨#[78, 111, 116, 32, 70, 111, 117, 110, 100]⟩
  else if n = 405 then ⟨#[77, 101, 116, 104, 111, 100, 32, 78, 111, 116, 32, 65, 108, 108, 111, 119, 101, 100]⟩
  else if n = 409 then ⟨#[67, 111, 110, 102, 108, 105, 99, 116]⟩
  else if n = 412 then ⟨#[80, 114, 101, 99, 111, 110, 100, 105, 116, 105, 111, 110, 32, 70, 97, 105, 108, 101, 100]⟩
  else if n = 413 then ⟨#[67, 111, 110, 116, 101, 110, 116, 32, 84, 111, 111, 32, 76, 97, 114, 103, 101]⟩
  else if n = 421 then ⟨#[77, 105, 115, 100, 105, 114, 101, 99, 116, 101, 100, 32, 82, 101, 113, 117, 101, 115, 116]⟩
  else if n = 503 then ⟨#[83, 101, 114, 118, 105, 99, 101, 32, 85, 110, 97, 118, 97, 105, 108, 97, 98, 108, 101]⟩
  else if n = 507 then ⟨#[73, 110, 115, 117, 102, 102, 105, 99, 105, 101, 110, 116, 32, 83, 116, 111, 114, 97, 103, 101]⟩
  else ⟨#[79, 116, 104, 101, 114]⟩
def reasonD : DataW Unit := (((((((((((((((DataW.map [] : DataW Unit).put (Lit.int .i64 200) (.lit (.string (⟨#[79, 75]⟩ : ByteArray).data.toList))).put (Lit.int .i64 201) (.lit (.string (⟨#[67, 114, 101, 97, 116, 101, 100]⟩ : ByteArray).data.toList))).put (Lit.int .i64 204) (.lit (.string (⟨#[78, 111, 32, 67, 111, 110, 116, 101, 110, 116]⟩ : ByteArray).data.toList))).put (Lit.int .i64 207) (.lit (.string (⟨#[77, 117, 108, 116, 105, 45, 83, 116, 97, 116, 117, 115]⟩ : ByteArray).data.toList))).put (Lit.int .i64 400) (.lit (.string (⟨#[66, 97, 100, 32, 82, 101, 113, 117, 101, 115, 116]⟩ : ByteArray).data.toList))).put (Lit.int .i64 403) (.lit (.string (⟨#[70, 111, 114, 98, 105, 100, 100, 101, 110]⟩ : ByteArray).data.toList))).put (Lit.int .i64 404) (.lit (.string (⟨#[78, 111, 116, 32, 70, 111, 117, 110, 100]⟩ : ByteArray).data.toList))).put (Lit.int .i64 405) (.lit (.string (⟨#[77, 101, 116, 104, 111, 100, 32, 78, 111, 116, 32, 65, 108, 108, 111, 119, 101, 100]⟩ : ByteArray).data.toList))).put (Lit.int .i64 409) (.lit (.string (⟨#[67, 111, 110, 102, 108, 105, 99, 116]⟩ : ByteArray).data.toList))).put (Lit.int .i64 412) (.lit (.string (⟨#[80, 114, 101, 99, 111, 110, 100, 105, 116, 105, 111, 110, 32, 70, 97, 105, 108, 101, 100]⟩ : ByteArray).data.toList))).put (Lit.int .i64 413) (.lit (.string (⟨#[67, 111, 110, 116, 101, 110, 116, 32, 84, 111, 111, 32, 76, 97, 114, 103, 101]⟩ : ByteArray).data.toList))).put (Lit.int .i64 421) (.lit (.string (⟨#[77, 105, 115, 100, 105, 114, 101, 99, 116, 101, 100, 32, 82, 101, 113, 117, 101, 115, 116]⟩ : ByteArray).data.toList))).put (Lit.int .i64 503) (.lit (.string (⟨#[83, 101, 114, 118, 105, 99, 101, 32, 85, 110, 97, 118, 97, 105, 108, 97, 98, 108, 101]⟩ : ByteArray).data.toList))).put (Lit.int .i64 507) (.lit (.string (⟨#[73, 110, 115, 117, 102, 102, 105, 99, 105, 101, 110, 116, 32, 83, 116, 111, 114, 97, 103, 101]⟩ : ByteArray).data.toList)))
theorem reasonD_eq : reasonD = .map [(Lit.int .i64 200, .lit (.string (⟨#[79, 75]⟩ : ByteArray).data.toList)), (Lit.int .i64 201, .lit (.string (⟨#[67, 114, 101, 97, 116, 101, 100]⟩ : ByteArray).data.toList)), (Lit.int .i64 204, .lit (.string (⟨#[78, 111, 32, 67, 111, 110, 116, 101, 110, 116]⟩ : ByteArray).data.toList)), (Lit.int .i64 207, .lit (.string (⟨#[77, 117, 108, 116, 105, 45, 83, 116, 97, 116, 117, 115]⟩ : ByteArray).data.toList)), (Lit.int .i64 400, .lit (.string (⟨#[66, 97, 100, 32, 82, 101, 113, 117, 101, 115, 116]⟩ : ByteArray).data.toList)), (Lit.int .i64 403, .lit (.string (⟨#[70, 111, 114, 98, 105, 100, 100, 101, 110]⟩ : ByteArray).data.toList)), (Lit.int .i64 404, .lit (.string (⟨#[78, 111, 116, 32, 70, 111, 117, 110, 100]⟩ : ByteArray).data.toList)), (Lit.int .i64 405, .lit (.string (⟨#[77, 101, 116, 104, 111, 100, 32, 78, 111, 116, 32, 65, 108, 108, 111, 119, 101, 100]⟩ : ByteArray).data.toList)), (Lit.int .i64 409, .lit (.string (⟨#[67, 111, 110, 102, 108, 105, 99, 116]⟩ : ByteArray).data.toList)), (Lit.int .i64 412, .lit (.string (⟨#[80, 114, 101, 99, 111, 110, 100, 105, 116, 105, 111, 110, 32, 70, 97, 105, 108, 101, 100]⟩ : ByteArray).data.toList)), (Lit.int .i64 413, .lit (.string (⟨#[67, 111, 110, 116, 101, 110, 116, 32, 84, 111, 111, 32, 76, 97, 114, 103, 101]⟩ : ByteArray).data.toList)), (Lit.int .i64 421, .lit (.string (⟨#[77, 105, 115, 100, 105, 114, 101, 99, 116, 101, 100, 32, 82, 101, 113, 117, 101, 115, 116]⟩ : ByteArray).data.toList)), (Lit.int .i64 503, .lit (.string (⟨#[83, 101, 114, 118, 105, 99, 101, 32, 85, 110, 97, 118, 97, 105, 108, 97, 98, 108, 101]⟩ : ByteArray).data.toList)), (Lit.int .i64 507, .lit (.string (⟨#[73, 110, 115, 117, 102, 102, 105, 99, 105, 101, 110, 116, 32, 83, 116, 111, 114, 97, 103, 101]⟩ : ByteArray).data.toList))] := by kernel_rfl
theorem reason_has (n : Int) : (Maps.has reasonD (Lit.int .i64 n) = true ∧ reasonD.atKey (Lit.int .i64 n) (.lit (.string [])) = .lit (.string (reasonV n).data.toList)) ∨ (Maps.has reasonD (Lit.int .i64 n) = false ∧ reasonV n = ⟨#[79, 116, 104, 101, 114]⟩) := by
  by_cases h : n = 200 ∨ n = 201 ∨ n = 204 ∨ n = 207 ∨ n = 400 ∨ n = 403 ∨ n = 404 ∨ n = 405 ∨ n = 409 ∨ n = 412 ∨ n = 413 ∨ n = 421 ∨ n = 503 ∨ n = 507
  · left
    rcases h with rfl | rfl | rfl | rfl | rfl | rfl | rfl | rfl | rfl | rfl | rfl | rfl | rfl | rfl
    all_goals exact ⟨by kernel_rfl, by kernel_rfl⟩
  · right
    simp only [not_or] at h
    obtain ⟨h200, h201, h204, h207, h400, h403, h404, h405, h409, h412, h413, h421, h503, h507⟩ := h
    constructor
    · rw [reasonD_eq]
      simp only [Maps.has, List.any_cons, List.any_nil, Lit.sameKey, true_and, Bool.or_eq_false_iff, decide_eq_false_iff_not]
      exact ⟨Ne.symm h200, Ne.symm h201, Ne.symm h204, Ne.symm h207, Ne.symm h400, Ne.symm h403, Ne.symm h404, Ne.symm h405, Ne.symm h409, Ne.symm h412, Ne.symm h413, Ne.symm h421, Ne.symm h503, Ne.symm h507, trivial⟩
    · unfold reasonV
      rw [if_neg h200, if_neg h201, if_neg h204, if_neg h207, if_neg h400, if_neg h403, if_neg h404, if_neg h405, if_neg h409, if_neg h412, if_neg h413, if_neg h421, if_neg h503, if_neg h507]
set_option maxHeartbeats 8000000 in
set_option maxRecDepth 100000 in
theorem reason_any (n : Int) (hn : (Lit.int .i64 n).wf = true) (w : World) :
    Calls Tryz.prog 17 #[.int .i64 n] w fun e w' => e = .returned (.string (reasonV n)) ∧ Below w.heap.size w w' := by
  have HB := Aside0.mk (Below.refl w.heap.size w)
  have HN := Aside0.mk hn
  clear hn
  rcases reason_has n with ⟨h1, h2⟩ | ⟨h1, h2⟩
  · have H1 := Aside0.mk h1
    have H2 := Aside0.mk h2
    clear h1 h2
    go_enter Tryz.func17, Tryz.ntmps17
    go_wp2_with (first | ((with_reducible refine zbj (N := 6) rfl ?_); refine Kd.zeu rfl (v := .map (some w.heap.size)) (w1 := w.alloc (.map #[] 0)) (by rfl) ?_; have HM := Aside0.mk (World.ownsMap_made w Tryz.prog 3 RV); have n0_ := Aside0.mk (zac HB.out (.map #[] 0)); clear HB; have HB := n0_; clear n0_; generalize w.alloc (.map #[] 0) = w1 at HM HB ⊢) | (refine entry_event _ rfl _ _ _ rfl _ _ _ _ _ rfl rfl rfl (by decide) (by decide) (by decide) HM.out ?_; intro w2 hm2 hg2; have n0_ := Aside0.mk (HB.out.grown hg2 HB.out.size (fun k hk => by cases hk; exact Nat.le_refl _)); have n1_ := Aside0.mk hm2; clear HB HM hm2 hg2; have HB := n0_; have HM := n1_; clear n0_ n1_) | ((with_reducible refine zbj (N := 9) rfl ?_); refine look_event _ rfl _ _ rfl _ _ reasonD n rfl rfl HN.out HM.out ?_; intro v_ ps_ hv_; rw [H1.out]; obtain rfl := rv_inv (hv_.trans (congrArg (fun z => some (z, ps_)) H2.out)); rw [Lib.mk_data]; clear hv_))
    go_ret
    exact ⟨rfl, (by repeat (first | (with_reducible first | exact HB.out | apply zac | apply zaa | apply zab) | exact HB.out))⟩
  · have H1 := Aside0.mk h1
    have H2 := Aside0.mk h2
    clear h1 h2
    go_enter Tryz.func17, Tryz.ntmps17
    go_wp2_with (first | ((with_reducible refine zbj (N := 6) rfl ?_); refine Kd.zeu rfl (v := .map (some w.heap.size)) (w1 := w.alloc (.map #[] 0)) (by rfl) ?_; have HM := Aside0.mk (World.ownsMap_made w Tryz.prog 3 RV); have n0_ := Aside0.mk (zac HB.out (.map #[] 0)); clear HB; have HB := n0_; clear n0_; generalize w.alloc (.map #[] 0) = w1 at HM HB ⊢) | (refine entry_event _ rfl _ _ _ rfl _ _ _ _ _ rfl rfl rfl (by decide) (by decide) (by decide) HM.out ?_; intro w2 hm2 hg2; have n0_ := Aside0.mk (HB.out.grown hg2 HB.out.size (fun k hk => by cases hk; exact Nat.le_refl _)); have n1_ := Aside0.mk hm2; clear HB HM hm2 hg2; have HB := n0_; have HM := n1_; clear n0_ n1_) | ((with_reducible refine zbj (N := 9) rfl ?_); refine look_event _ rfl _ _ rfl _ _ reasonD n rfl rfl HN.out HM.out ?_; intro v_ ps_ hv_; rw [H1.out]; have H4 := Aside0.mk hv_; clear hv_))
    go_ret
    exact ⟨by rw [H2.out]; rfl, (by repeat (first | (with_reducible first | exact HB.out | apply zac | apply zaa | apply zab) | exact HB.out))⟩
end Go.Proofs.YtipfekjmcddelaaGreatDoor
