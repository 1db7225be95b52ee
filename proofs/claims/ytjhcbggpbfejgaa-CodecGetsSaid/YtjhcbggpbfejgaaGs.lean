import Derived.Test.YtjhcbggpbfejgaaHd
/- Stepping through a region that draws its order: what its operations have left is kept as a list beside the frame. -/
namespace Go.Proofs.Ytjhcbggpbfejgaa.Gs
open Go.RowKit Go.Proofs.YtjhcbggpbfejgaaW.PrintWords Go.Proofs.YtjhcbggpbfejgaaW.PrintLast Go.Proofs.YtjhcbggpbfejgaaW.PrintMore
set_option linter.unusedVariables false
set_option linter.unusedSimpArgs false
abbrev PL := List (Nat × Value)
def lookO : PL → Nat → Option Value
  | [], _ => none
  | (n, v) :: r, t => if n = t then some v else lookO r t
def act (a : Act) : PL → Act
  | [] => a
  | (n, v) :: r => (act a r).put (some n) v
def evl (a : Act) (l : PL) : Operand → Value
  | .tmp t => (lookO l t).getD (a.tmps.getD t undef)
  | x => a.eval x
def okB (M : Nat) (l : PL) : Bool := l.all fun p => decide (p.1 < M)
theorem act_size (a : Act) (l : PL) : (act a l).tmps.size = a.tmps.size := by
  induction l with
  | nil => rfl
  | cons p r ih => obtain ⟨n, v⟩ := p; simp [act, Act.put, ih]
theorem act_get {M : Nat} (a : Act) (hM : a.tmps.size = M) (l : PL) (hl : okB M l = true) (t : Nat) : (act a l).tmps[t]? = if t < M then some ((lookO l t).getD (a.tmps.getD t undef)) else none := by
  induction l with
  | nil =>
    by_cases h : t < M
    · have : t < a.tmps.size := by omega
      simp [act, lookO, h, Array.getD, this]
    · have : ¬ t < a.tmps.size := by omega
      simp [act, h]
      omega
  | cons p r ih =>
    obtain ⟨n, v⟩ := p
    simp only [okB, List.all_cons, Bool.and_eq_true] at hl
    have hn : n < M := of_decide_eq_true hl.1
    have ih := ih hl.2
    simp only [act, Act.put, Array.getElem?_setIfInBounds, act_size, lookO]
    by_cases h : n = t
    · subst h
      simp [hM, hn]
    · simp [h, ih]
theorem act_eval {M : Nat} (a : Act) (hM : a.tmps.size = M) (l : PL) (hl : okB M l = true) : (act a l).eval = evl a l := by
  funext x
  cases x with
  | tmp t =>
    have h := act_get a hM l hl t
    have h2 : lookO l t = none ∨ t < M := by
      clear h
      induction l with
      | nil => exact .inl rfl
      | cons p r ih =>
        obtain ⟨n, v⟩ := p
        simp only [okB, List.all_cons, Bool.and_eq_true] at hl
        have hn : n < M := of_decide_eq_true hl.1
        by_cases h : n = t
        · exact .inr (h ▸ hn)
        · rcases ih hl.2 with h2 | h2
          · exact .inl (by simp [lookO, h, h2])
          · exact .inr h2
    simp only [Act.eval, evl, Array.getD_eq_getD_getElem?, h]
    by_cases c : t < M
    · simp [c]
    · rcases h2 with h2 | h2
      · have : ¬ t < a.tmps.size := fun hh => c (hM ▸ hh)
        simp [c, h2, this]
      · exact absurd h2 c
  | const v => rfl
  | global g => rfl
  | func f => rfl
def gd (ops : Array Oper) (l : PL) (o : Oper) : Option Bool :=
  match o.guard with
  | none => some true
  | some (j, want) => match (ops[j]?).bind (·.dst) with
    | none => some false
    | some t => match lookO l t with
      | none => none
      | some v => match v with
        | .bool b => some (b == want)
        | _ => some false
theorem wanted_of {M : Nat} {ops : Array Oper} (a : Act) (hM : a.tmps.size = M) (l : PL) (hl : okB M l = true) (o : Oper) (b : Bool) (h : gd ops l o = some b) : Region.wanted o (yielded ops (act a l).tmps) = b := by
  unfold gd at h
  unfold Region.wanted
  cases hg : o.guard with
  | none => rw [hg] at h; simpa using h
  | some p =>
    obtain ⟨j, want⟩ := p
    rw [hg] at h
    dsimp only at h ⊢
    unfold yielded
    cases hd : (ops[j]?).bind (·.dst) with
    | none =>
      rw [hd] at h
      obtain rfl := Option.some.inj h; rfl
    | some t =>
      rw [hd] at h
      dsimp only at h
      simp only [Option.bind_some]
      have h2 : ∀ v, lookO l t = some v → (act a l).tmps[t]? = some v := by
        intro v hv
        have := act_get a hM l hl t
        have ht : t < M := by
          have := hl
          clear h this hd hg
          induction l with
          | nil => simp [lookO] at hv
          | cons p r ih =>
            obtain ⟨n, u⟩ := p
            simp only [okB, List.all_cons, Bool.and_eq_true] at hl
            have hn : n < M := of_decide_eq_true hl.1
            by_cases h : n = t
            · exact h ▸ hn
            · simp [lookO, h] at hv
              exact ih hl.2 hv (act_get a hM r hl.2 t)
        rw [this, if_pos ht, hv]
        rfl
      cases hv : lookO l t with
      | none => rw [hv] at h; cases h
      | some v =>
        rw [h2 v hv]
        rw [hv] at h
        dsimp only at h
        cases v with
        | bool q =>
          obtain rfl := Option.some.inj h; rfl
        | _ =>
          obtain rfl := Option.some.inj h; rfl
section
variable {P : Program} {ops : Array Oper} {Q : Exit → Act → World → Prop} {md : Region.Mode} {S : World → Prop} {ds : List Nat}
abbrev PanicFree (Q : Exit → Act → World → Prop) : Prop := ∀ c a n v w, Q (.panic c) (Act.put a (some n) v) w → Q (.panic c) a w
/-- An operation that yields in every world. -/
theorem pureS {i n fuel : Nat} {oi : Oper} {v : Value} {arr : Array Bool} {a : Act} {l : PL} {w : World} (arr' : Array Bool) {M : Nat} (hM : a.tmps.size = M) (hl : okB M l = true) (hQ : PanicFree Q) (hi : ops[i]? = some oi) (hN : oi.dst = some n) (hc : anyB md ops arr arr' i = true)
    (hg : gd ops l oi = some true) (hrun : ∀ w, (execOp (evl a l) oi).run P w = .ok (.value v) w) (h : wpAnyLast P md ops Q S ds fuel arr' (act a ((n, v) :: l)) w) : wpAnyLast P md ops Q S ds (fuel + 1) arr (act a l) w :=
  pure_ arr' hi hN hc (fun c a w h => hQ c a n v w (hN ▸ h)) (Or.inl ⟨wanted_of a hM l hl oi true hg, by rw [act_eval a hM l hl]; exact hrun⟩) rfl h
/-- One whose guard is off. -/
theorem offS {i n fuel : Nat} {oi : Oper} {arr : Array Bool} {a : Act} {l : PL} {w : World} (arr' : Array Bool) {M : Nat} (hM : a.tmps.size = M) (hl : okB M l = true) (hQ : PanicFree Q) (hi : ops[i]? = some oi) (hN : oi.dst = some n) (hc : anyB md ops arr arr' i = true)
    (hg : gd ops l oi = some false) (h : wpAnyLast P md ops Q S ds fuel arr' (act a ((n, undef) :: l)) w) : wpAnyLast P md ops Q S ds (fuel + 1) arr (act a l) w :=
  pure_ arr' hi hN hc (fun c a w h => hQ c a n undef w (hN ▸ h)) (Or.inr ⟨wanted_of a hM l hl oi false hg, rfl⟩) rfl h
/-- One that reads, under S. -/
theorem takeS {i n fuel : Nat} {oi : Oper} {v : Value} {arr : Array Bool} {a : Act} {l : PL} {w : World} (arr' : Array Bool) {M : Nat} (hM : a.tmps.size = M) (hl : okB M l = true) (hQ : PanicFree Q) (hi : ops[i]? = some oi) (hN : oi.dst = some n) (hc : takeB md ops ds arr arr' i = true)
    (hg : gd ops l oi = some true) (hS : S w) (hrun : ∀ w, S w → (execOp (evl a l) oi).run P w = .ok (.value v) w) (h : wpAnyLast P md ops Q S ds fuel arr' (act a ((n, v) :: l)) w) : wpAnyLast P md ops Q S ds (fuel + 1) arr (act a l) w :=
  take_ arr' hi hN hc (fun c a w h => hQ c a n v w (hN ▸ h)) (Or.inl ⟨wanted_of a hM l hl oi true hg, by rw [act_eval a hM l hl]; exact hrun⟩) hS rfl h
/-- What one_ and two_ ask of an operation that yields a value. -/
theorem brV {n fuel : Nat} {oi : Oper} {v : Value} {arr' : Array Bool} {a : Act} {l : PL} {w w1 : World} {M : Nat} (hM : a.tmps.size = M) (hl : okB M l = true) (hg : gd ops l oi = some true)
    (hrun : (execOp (evl a l) oi).run P w = .ok (.value v) w1) (hS : S w1) (h : wpAnyLast P md ops Q S ds fuel arr' (act a ((n, v) :: l)) w1) :
    ∀ K : Act → World → Prop, Shut (∀ a' w', S w' → (S w' → wpAnyLast P md ops Q S ds fuel arr' a' w') → K a' w') → if Region.wanted oi (yielded ops (act a l).tmps) = true then oi.dst = some n → Oper.wp P oi (act a l) w K Q else K ((act a l).put (some n) undef) w := by
  intro K hK
  rw [if_pos (wanted_of a hM l hl oi true hg)]
  intro hN
  unfold Oper.wp
  rw [act_eval a hM l hl, hrun]
  show K ((act a l).put oi.dst v) w1
  rw [hN]
  exact hK _ _ hS (fun _ => h)
theorem brC {n fuel f : Nat} {fn : Func} {oi : Oper} {xs : Array Operand} {ts : Array TypeId} {arr' : Array Bool} {a : Act} {l : PL} {w : World} {M : Nat} (hM : a.tmps.size = M) (hl : okB M l = true) (hg : gd ops l oi = some true)
    (hf : P.funcs[f]? = some fn) (hname : (fn.name == "runtime.NumGoroutine") = false) (hb : fn.body.isSome = true) (hop : oi.op = .call { callee := .value (.func f), args := xs, argTypes := ts })
    (args : Array Value) (hargs : xs.map (evl a l) = args)
    (h : Calls P f args w fun e w' => ∃ v, e = .returned v ∧ S w' ∧ wpAnyLast P md ops Q S ds fuel arr' (act a ((n, v) :: l)) w') :
    ∀ K : Act → World → Prop, Shut (∀ a' w', S w' → (S w' → wpAnyLast P md ops Q S ds fuel arr' a' w') → K a' w') → if Region.wanted oi (yielded ops (act a l).tmps) = true then oi.dst = some n → Oper.wp P oi (act a l) w K Q else K ((act a l).put (some n) undef) w := by
  intro K hK
  rw [if_pos (wanted_of a hM l hl oi true hg)]
  intro hN
  have := goes_ (P := P) (ops := ops) (Q := Q) (K := K) (a := act a l) hf hname hb args (wanted_of a hM l hl oi true hg) hN hop (by rw [act_eval a hM l hl]; exact hargs) (h.mono fun e w' hh => by
    obtain ⟨v, he, hS, hW⟩ := hh
    exact ⟨v, he, hK _ _ hS (fun _ => hW)⟩)
  rw [if_pos (wanted_of a hM l hl oi true hg)] at this
  exact this
theorem ifN {oi : Oper} {n : Nat} {a : Act} {w : World} {K : Act → World → Prop} (hN : oi.dst = some n) (h : if Region.wanted oi (yielded ops a.tmps) = true then oi.dst = some n → Oper.wp P oi a w K Q else K (a.put (some n) undef) w) : if Region.wanted oi (yielded ops a.tmps) = true then Oper.wp P oi a w K Q else K (a.put (some n) undef) w := by
  by_cases c : Region.wanted oi (yielded ops a.tmps) = true
  · rw [if_pos c] at h ⊢; exact h hN
  · rw [if_neg c] at h ⊢; exact h
/-- One operation alone may come up: it yields a value. -/
theorem oneV {i n fuel : Nat} {oi : Oper} {v : Value} {arr : Array Bool} {a : Act} {l : PL} {w w1 : World} (arr' : Array Bool) {M : Nat} (hM : a.tmps.size = M) (hl : okB M l = true) (hi : ops[i]? = some oi) (hN : oi.dst = some n) (hc : readyB md ops arr arr' i = true) (hd : i ∉ ds)
    (hg : gd ops l oi = some true) (hrun : (execOp (evl a l) oi).run P w = .ok (.value v) w1) (hS : S w1) (h : wpAnyLast P md ops Q S ds fuel arr' (act a ((n, v) :: l)) w1) : wpAnyLast P md ops Q S ds (fuel + 1) arr (act a l) w :=
  one_ arr' hi hN hc hd (fun K hK => ifN hN (brV hM hl hg hrun hS h K hK))
/-- .. it calls. -/
theorem oneC {i n fuel f : Nat} {fn : Func} {oi : Oper} {xs : Array Operand} {ts : Array TypeId} {arr : Array Bool} {a : Act} {l : PL} {w : World} (arr' : Array Bool) {M : Nat} (hM : a.tmps.size = M) (hl : okB M l = true) (hi : ops[i]? = some oi) (hN : oi.dst = some n) (hc : readyB md ops arr arr' i = true) (hd : i ∉ ds)
    (hg : gd ops l oi = some true) (hop : oi.op = .call { callee := .value (.func f), args := xs, argTypes := ts }) (hf : P.funcs[f]? = some fn) (hname : (fn.name == "runtime.NumGoroutine") = false) (hb : fn.body.isSome = true)
    (args : Array Value) (hargs : xs.map (evl a l) = args)
    (h : Calls P f args w fun e w' => ∃ v, e = .returned v ∧ S w' ∧ wpAnyLast P md ops Q S ds fuel arr' (act a ((n, v) :: l)) w') : wpAnyLast P md ops Q S ds (fuel + 1) arr (act a l) w :=
  one_ arr' hi hN hc hd (fun K hK => ifN hN (brC hM hl hg hf hname hb hop args hargs h K hK))
/-- Two may come up. -/
theorem twoS {i j ni nj fuel : Nat} {oi oj : Oper} {arr : Array Bool} {a : Act} {l : PL} {w : World} (li lj : Array Bool) (hi : ops[i]? = some oi) (hj : ops[j]? = some oj) (hNi : oi.dst = some ni) (hNj : oj.dst = some nj)
    (hc : (Region.ready md ops arr == [i, j] && arr.setIfInBounds i true == li && arr.setIfInBounds j true == lj) = true) (hdi : i ∉ ds) (hdj : j ∉ ds)
    (h1 : ∀ K : Act → World → Prop, Shut (∀ a' w', S w' → (S w' → wpAnyLast P md ops Q S ds fuel li a' w') → K a' w') → if Region.wanted oi (yielded ops (act a l).tmps) = true then oi.dst = some ni → Oper.wp P oi (act a l) w K Q else K ((act a l).put (some ni) undef) w)
    (h2 : ∀ K : Act → World → Prop, Shut (∀ a' w', S w' → (S w' → wpAnyLast P md ops Q S ds fuel lj a' w') → K a' w') → if Region.wanted oj (yielded ops (act a l).tmps) = true then oj.dst = some nj → Oper.wp P oj (act a l) w K Q else K ((act a l).put (some nj) undef) w) :
    wpAnyLast P md ops Q S ds (fuel + 1) arr (act a l) w :=
  two_ li lj hi hj hNi hNj hc hdi hdj (fun K hK => ifN hNi (h1 K hK)) (fun K hK => ifN hNj (h2 K hK))
theorem twoVV {i j ni nj fuel : Nat} {oi oj : Oper} {vi vj : Value} {arr : Array Bool} {a : Act} {l : PL} {w : World} (li lj : Array Bool) {M : Nat} (hM : a.tmps.size = M) (hl : okB M l = true) (hi : ops[i]? = some oi) (hj : ops[j]? = some oj) (hNi : oi.dst = some ni) (hNj : oj.dst = some nj)
    (hc : (Region.ready md ops arr == [i, j] && arr.setIfInBounds i true == li && arr.setIfInBounds j true == lj) = true) (hdi : i ∉ ds) (hdj : j ∉ ds) (hS : S w)
    (hgi : gd ops l oi = some true) (hri : (execOp (evl a l) oi).run P w = .ok (.value vi) w) (hgj : gd ops l oj = some true) (hrj : (execOp (evl a l) oj).run P w = .ok (.value vj) w)
    (h1 : wpAnyLast P md ops Q S ds fuel li (act a ((ni, vi) :: l)) w)
    (h2 : wpAnyLast P md ops Q S ds fuel lj (act a ((nj, vj) :: l)) w) : wpAnyLast P md ops Q S ds (fuel + 1) arr (act a l) w :=
  twoS li lj hi hj hNi hNj hc hdi hdj (brV hM hl hgi hri hS h1) (brV hM hl hgj hrj hS h2)
theorem twoVC {i j ni nj fuel f : Nat} {oi oj : Oper} {fn : Func} {xs : Array Operand} {ts : Array TypeId} {vi : Value} {arr : Array Bool} {a : Act} {l : PL} {w : World} (li lj : Array Bool) {M : Nat} (hM : a.tmps.size = M) (hl : okB M l = true) (hi : ops[i]? = some oi) (hj : ops[j]? = some oj) (hNi : oi.dst = some ni) (hNj : oj.dst = some nj)
    (hc : (Region.ready md ops arr == [i, j] && arr.setIfInBounds i true == li && arr.setIfInBounds j true == lj) = true) (hdi : i ∉ ds) (hdj : j ∉ ds) (hS : S w)
    (hgi : gd ops l oi = some true) (hri : (execOp (evl a l) oi).run P w = .ok (.value vi) w) (hgj : gd ops l oj = some true) (hop : oj.op = .call { callee := .value (.func f), args := xs, argTypes := ts }) (hf : P.funcs[f]? = some fn) (hname : (fn.name == "runtime.NumGoroutine") = false) (hb : fn.body.isSome = true) (args : Array Value) (hargs : xs.map (evl a l) = args)
    (h1 : wpAnyLast P md ops Q S ds fuel li (act a ((ni, vi) :: l)) w)
    (h2 : Calls P f args w fun e w' => ∃ v, e = .returned v ∧ S w' ∧ wpAnyLast P md ops Q S ds fuel lj (act a ((nj, v) :: l)) w') : wpAnyLast P md ops Q S ds (fuel + 1) arr (act a l) w :=
  twoS li lj hi hj hNi hNj hc hdi hdj (brV hM hl hgi hri hS h1) (brC hM hl hgj hf hname hb hop args hargs h2)
end
/-! ### The frame's other slots -/
structure Fr (lo hi : Nat) (a a' : Act) : Prop where
  sz : a'.tmps.size = a.tmps.size
  df : a'.defers = a.defers
  eq : ∀ t, t < lo ∨ hi < t → a'.tmps.getD t undef = a.tmps.getD t undef
theorem Fr.refl (lo hi : Nat) (a : Act) : Fr lo hi a a := ⟨rfl, rfl, fun _ _ => rfl⟩
theorem Fr.trans {lo hi : Nat} {a b c : Act} (h : Fr lo hi a b) (k : Fr lo hi b c) : Fr lo hi a c := ⟨k.sz.trans h.sz, k.df.trans h.df, fun t ht => (k.eq t ht).trans (h.eq t ht)⟩
theorem Fr.act {lo hi : Nat} (a : Act) : ∀ (l : PL), l.all (fun p => decide (lo ≤ p.1) && decide (p.1 ≤ hi)) = true → Fr lo hi a (act a l)
  | [], _ => Fr.refl lo hi a
  | (n, v) :: r, h => by
    simp only [List.all_cons, Bool.and_eq_true, decide_eq_true_eq] at h
    refine (Fr.act a r h.2).trans ⟨by simp [Gs.act, Act.put], rfl, fun t ht => ?_⟩
    have : n ≠ t := by omega
    simp [Gs.act, Act.put, Array.getD_eq_getD_getElem?, Array.getElem?_setIfInBounds, this]
theorem look_get {M : Nat} (a : Act) (hM : a.tmps.size = M) (l : PL) (hl : okB M l = true) {t : Nat} {v : Value} (ht : t < M) (h : lookO l t = some v) : (Gs.act a l).tmps.getD t undef = v := by
  rw [Array.getD_eq_getD_getElem?, act_get a hM l hl t, if_pos ht, h]
  rfl
theorem put_same (a : Act) (n : Nat) (v : Value) (hn : n < a.tmps.size) (h : a.tmps.getD n undef = v) : a.put (some n) v = a := by
  obtain ⟨tm, df⟩ := a
  simp only [Act.put]
  congr
  subst h
  apply Array.ext (by simp)
  intro i h1 h2
  have hn' : n < tm.size := hn
  simp only [Array.getD, hn', dif_pos]
  rw [Array.getElem_setIfInBounds (by simpa using h1)]
  by_cases e : n = i
  · subst e; simp
  · simp [e]
/-- One slot alone is remembered. -/
theorem rebase {M : Nat} (a : Act) (hM : a.tmps.size = M) (l : PL) (hl : okB M l = true) {n : Nat} {v : Value} (hn : n < M) (h : lookO l n = some v) : Gs.act a l = Gs.act (Gs.act a l) [(n, v)] :=
  (put_same _ n v (by rw [act_size, hM]; exact hn) (look_get a hM l hl hn h)).symm
theorem getD_set_ne (t : Array Value) (n : Nat) (v : Value) (i : Nat) (h : n ≠ i) : (t.setIfInBounds n v).getD i undef = t.getD i undef := by
  simp [Array.getD_eq_getD_getElem?, Array.getElem?_setIfInBounds, h]
theorem act_ext {a b : Act} (h : a.tmps = b.tmps) (k : a.defers = b.defers) : a = b := by
  cases a
  cases b
  simp only at h k
  rw [h, k]
/-- A frame that differs between lo and hi alone, written out. -/
theorem canon {lo n : Nat} {a a' : Act} (h : Fr lo (lo + n) a a') (hs : lo + n < a.tmps.size) : a' = Gs.act a ((List.range (n + 1)).map fun i => (lo + i, a'.tmps.getD (lo + i) undef)) := by
  have key : ∀ (k : Nat) (is : List Nat), (∀ t, (Gs.act a (is.map fun i => (lo + i, a'.tmps.getD (lo + i) undef))).tmps.getD t undef = if ∃ i ∈ is, lo + i = t ∧ t < a.tmps.size then a'.tmps.getD t undef else a.tmps.getD t undef) := by
    intro k is
    induction is with
    | nil => intro t; simp [Gs.act]
    | cons i r ih =>
      intro t
      have ih := ih t
      simp only [List.map_cons, Gs.act, Act.put]
      by_cases e : lo + i = t
      · subst e
        by_cases c : lo + i < a.tmps.size
        · rw [if_pos ⟨i, by simp, rfl, c⟩, Array.getD_eq_getD_getElem?, Array.getElem?_setIfInBounds, if_pos rfl, if_pos (by rw [act_size]; exact c)]
          rfl
        · rw [if_neg (by rintro ⟨_, _, _, h⟩; exact c h), Array.getD_eq_getD_getElem?, Array.getElem?_setIfInBounds, if_pos rfl, if_neg (by rw [act_size]; exact c), Array.getD_eq_getD_getElem?, Array.getElem?_eq_none (by omega)]
      · rw [getD_set_ne _ _ _ _ e, ih]
        simp [e]
  have sz : a'.tmps.size = (Gs.act a ((List.range (n + 1)).map fun i => (lo + i, a'.tmps.getD (lo + i) undef))).tmps.size := by rw [act_size]; exact h.sz
  have df : a'.defers = (Gs.act a ((List.range (n + 1)).map fun i => (lo + i, a'.tmps.getD (lo + i) undef))).defers := by
    rw [h.df]
    generalize ((List.range (n + 1)).map fun i => (lo + i, a'.tmps.getD (lo + i) undef)) = l
    induction l with
    | nil => rfl
    | cons p r ih => obtain ⟨m, v⟩ := p; exact ih
  have tm : a'.tmps = (Gs.act a ((List.range (n + 1)).map fun i => (lo + i, a'.tmps.getD (lo + i) undef))).tmps := by
    apply Array.ext sz
    intro i h1 h2
    have e := key 0 (List.range (n + 1)) i
    have e1 : ∀ (x : Array Value) (hx : i < x.size), x.getD i undef = x[i] := fun x hx => by simp [Array.getD, hx]
    rw [e1 _ h2] at e
    rw [e]
    by_cases c : ∃ j ∈ List.range (n + 1), lo + j = i ∧ i < a.tmps.size
    · rw [if_pos c, e1 _ h1]
    · rw [if_neg c, ← e1 _ h1]
      refine h.eq i ?_
      by_cases c1 : i < lo
      · exact .inl c1
      · by_cases c2 : lo + n < i
        · exact .inr c2
        · exact absurd ⟨i - lo, List.mem_range.2 (by omega), by omega, by have := h.sz; omega⟩ c
  exact act_ext tm df
/-! ### What operations come to -/
section
variable {P : Program} {f : Operand → Value} {o : Oper} {w : World}
theorem r_move {x : Operand} {v : Value} (h : o.op = .move x) (hx : f x = v) : (execOp f o).run P w = .ok (.value v) w := by unfold execOp; simp [h, hx]
theorem r_assign {x : Operand} {v : Value} (h : o.op = .assign x) (hx : f x = v) : (execOp f o).run P w = .ok (.value v) w := by unfold execOp; simp [h, hx]
theorem r_pick {c x y : Operand} {v : Value} (q : Bool) (h : o.op = .pick c x y) (hc : f c = .bool q) (hv : (if q then f x else f y) = v) : (execOp f o).run P w = .ok (.value v) w := by
  subst hv
  unfold execOp
  cases q <;> simp [h, hc, asBool]
theorem r_neqI {t t2 : TypeId} {x y : Operand} (k : IntKind) (n m : Int) (b : Bool) (h : o.op = .binOp .neq t x y t2) (hx : f x = .int k n) (hy : f y = .int k m) (hb : (n != m) = b) : (execOp f o).run P w = .ok (.value (.bool b)) w := by
  subst hb
  unfold execOp
  simp [h, hx, hy, eqGuard, binOp, Op.intCmp]
theorem r_eqlI {t t2 : TypeId} {x y : Operand} (k : IntKind) (n m : Int) (b : Bool) (h : o.op = .binOp .eql t x y t2) (hx : f x = .int k n) (hy : f y = .int k m) (hb : (n == m) = b) : (execOp f o).run P w = .ok (.value (.bool b)) w := by
  subst hb
  unfold execOp
  simp [h, hx, hy, eqGuard, binOp, Op.intCmp]
theorem r_neqS {t t2 : TypeId} {x y : Operand} (n m : ByteArray) (b : Bool) (h : o.op = .binOp .neq t x y t2) (hx : f x = .string n) (hy : f y = .string m) (hb : (n.toList != m.toList) = b) : (execOp f o).run P w = .ok (.value (.bool b)) w := by
  subst hb
  unfold execOp
  simp [h, hx, hy, eqGuard, binOp, Op.stringOp, bne]
theorem r_eqlS {t t2 : TypeId} {x y : Operand} (n m : ByteArray) (b : Bool) (h : o.op = .binOp .eql t x y t2) (hx : f x = .string n) (hy : f y = .string m) (hb : (n.toList == m.toList) = b) : (execOp f o).run P w = .ok (.value (.bool b)) w := by
  subst hb
  unfold execOp
  simp [h, hx, hy, eqGuard, binOp, Op.stringOp, bne]
theorem r_not {t : TypeId} {x : Operand} (q : Bool) (h : o.op = .unOp .not t x) (hx : f x = .bool q) : (execOp f o).run P w = .ok (.value (.bool (!q))) w := by
  unfold execOp
  simp [h, hx, Op.unary]
theorem r_load {t : TypeId} {x : Operand} {v p : Value} (h : o.op = .load t x) (hx : f x = p) (hr : (Instr.loadAt t p).run P w = .ok v w) : (execOp f o).run P w = .ok (.value v) w := by
  unfold execOp
  simp [h, hx, hr]
theorem r_conv {s t : TypeId} {x : Operand} {v p : Value} (h : o.op = .convert s t x) (hx : f x = p) (hr : (convert s t p).run P w = .ok v w) : (execOp f o).run P w = .ok (.value v) w := by
  unfold execOp
  simp [h, hx, hr]
theorem r_field {t : TypeId} {x : Operand} {i : Nat} {v p : Value} (h : o.op = .fieldAddr t x i) (hx : f x = p) (hr : (Instr.fieldAt t p i).run P w = .ok v w) : (execOp f o).run P w = .ok (.value v) w := by
  unfold execOp
  simp [h, hx, hr]
theorem r_build {t : TypeId} {v : Value} (h : o.op = .build t #[]) (hr : (Instr.build t #[]).run P w = .ok v w) : (execOp f o).run P w = .ok (.value v) w := by
  unfold execOp
  simp [h, hr]
theorem r_len {t : TypeId} {x : Operand} {A : Option Addr} {n c : Nat} (h : o.op = .call { callee := .builtin .len, args := #[x], argTypes := #[t] }) (hx : f x = .slice A n c) {e : TypeId} (hu : P.underlying t = some (.slice e)) : (execOp f o).run P w = .ok (.value (.int .i64 n)) w := by
  unfold execOp
  simp [h, resolve, invoke, builtin, hx, Builtin.len_, run_underlying hu, goInt]
theorem r_load_blk {t : TypeId} {x : Operand} {g : Nat} {t0 : TypeId} {cs : Array Value} {d : TypeDesc} (h : o.op = .load t x) (hx : f x = .pointer (some ⟨g, 0, none⟩)) (hg : w.heap[g]? = some (.cells cs t0 (0, 0)))
    (hu : P.underlying t = some d) (hd : (match d with | .struct _ | .array _ _ => true | _ => false) = true) (hi : (P.info? t).map (·.size) = some cs.size) : (execOp f o).run P w = .ok (.value (.agg cs)) w := by
  refine r_load h hx ?_
  simp only [Instr.loadAt, Instr.sureAddr, Sem.run_bind, Sem.run_pure, Result.andThen_ok, run_loadVar_row w g t0 t cs (0, 0) d hg hu hd hi]
end
end Go.Proofs.Ytjhcbggpbfejgaa.Gs
