import Derived.Test.YtjhcbggpbfejgaaCq
import Derived.Test.YtjhcbggpbfejgaaCv
import Derived.Deep.DeepCutAuto
import Derived.Test.YtjhcbggpbfejgaaCl
namespace Go.Proofs.Ytjhcbggpbfejgaa.Cp
open Go.RowKit Go.Proofs.zjt.zjq
set_option linter.unusedVariables false
set_option linter.unusedSimpArgs false
/-- Read without a fault, it is what f writes of it, and the rest. -/
def Inv {α : Type} (F : St → α × St) (f : α → List Int) : Prop :=
  (∀ xs, Bs xs → (F (xs, 0)).2.2 = 0 → xs = f (F (xs, 0)).1 ++ (F (xs, 0)).2.1) ∧ (∀ s : St, s.2 ≠ 0 → (F s).2.2 ≠ 0) ∧ ∀ s : St, Bs s.1 → Bs (F s).2.1
theorem Inv.bind {α β γ : Type} {F : St → α × St} {G : α → St → β × St} {f : α → List Int} {g : α → β → List Int} {h : γ → List Int} {mk : α → β → γ} (hF : Inv F f) (hG : ∀ a, Inv (G a) (g a)) (hh : ∀ xs, Bs xs → (F (xs, 0)).2.2 = 0 → ∀ ys, Bs ys → (G (F (xs, 0)).1 (ys, 0)).2.2 = 0 → h (mk (F (xs, 0)).1 (G (F (xs, 0)).1 (ys, 0)).1) = f (F (xs, 0)).1 ++ g (F (xs, 0)).1 (G (F (xs, 0)).1 (ys, 0)).1) :
    Inv (fun s => (mk (F s).1 (G (F s).1 (F s).2).1, (G (F s).1 (F s).2).2)) h := by
  refine ⟨fun xs hb hz => ?_, fun s hs => (hG _).2.1 _ (hF.2.1 s hs), fun s hs => (hG _).2.2 _ (hF.2.2 s hs)⟩
  dsimp only at hz ⊢
  have h1 : (F (xs, 0)).2.2 = 0 := by
    by_cases c : (F (xs, 0)).2.2 = 0
    · exact c
    · exact absurd hz ((hG _).2.1 _ c)
  have h2 : (F (xs, 0)).2 = ((F (xs, 0)).2.1, 0) := Prod.ext rfl h1
  have h3 := hF.1 xs hb h1
  have hb2 := hF.2.2 (xs, 0) hb
  rw [h2] at hz ⊢
  have h4 := (hG (F (xs, 0)).1).1 (F (xs, 0)).2.1 hb2 hz
  rw [hh xs hb h1 _ hb2 hz, List.append_assoc, ← h4]
  exact h3
theorem Inv.map {α β : Type} {F : St → α × St} {f : α → List Int} {g : β → List Int} (mk : α → β) (hF : Inv F f) (h : ∀ xs, Bs xs → (F (xs, 0)).2.2 = 0 → g (mk (F (xs, 0)).1) = f (F (xs, 0)).1) : Inv (fun s => (mk (F s).1, (F s).2)) g := by
  refine ⟨fun xs hb hz => ?_, fun s hs => hF.2.1 s hs, fun s hs => hF.2.2 s hs⟩
  dsimp only at hz ⊢
  rw [h xs hb hz]
  exact hF.1 xs hb hz
theorem zgu (xs : List Int) (n : Int) (h : (take (xs, 0) n).2.2 = 0) : (n ≤ xs.length) ∧ take (xs, 0) n = (xs.take n.toNat, (xs.drop n.toNat, 0)) := by
  unfold take at h ⊢
  by_cases c : ((xs, (0 : Int)) : St).2 = 150 ∨ ((((xs, (0 : Int)) : St).1.length : Nat) : Int) < n
  · rw [if_pos c] at h
    simp at h
  · rw [if_neg c]
    have : ¬ ((xs.length : Int) < n) := fun h => c (.inr h)
    exact ⟨by omega, rfl⟩
theorem take_keep (s : St) (n : Int) (h : s.2 ≠ 0) : (take s n).2.2 ≠ 0 := by
  unfold take
  split
  · simp
  · exact h
theorem Inv.take (n : Int) : Inv (fun s => Cp.take s n) (fun l => l) := by
  refine ⟨fun xs hb hz => ?_, fun s hs => take_keep s n hs, fun s hs => (zdl s n hs).2⟩
  obtain ⟨h1, h2⟩ := zgu xs n hz
  dsimp only
  rw [h2]
  simp
theorem be8_unum (l : List Int) (h : Bs l) (hl : l.length = 8) : be8 (unum l) = l := by
  match l, hl with
  | [a, b, c, d, e, f, g, i], _ =>
    have ha := h a (by simp)
    have hb := h b (by simp)
    have hc := h c (by simp)
    have hd := h d (by simp)
    have he := h e (by simp)
    have hf := h f (by simp)
    have hg := h g (by simp)
    have hi := h i (by simp)
    simp only [be8, List.range, List.range.loop, List.map_cons, List.map_nil, unum, List.foldl_cons, List.foldl_nil, byteAt, List.cons.injEq, and_true]
    refine ⟨?_, ?_, ?_, ?_, ?_, ?_, ?_, ?_⟩ <;> omega
theorem be8_wrap (n : Int) : be8 (wrap64 n) = be8 n := by
  have h : wrap64 n = n - 18446744073709551616 * ((n + 9223372036854775808) / 18446744073709551616) := by unfold wrap64; omega
  rw [h]
  simp only [be8, List.range, List.range.loop, List.map_cons, List.map_nil, byteAt, List.cons.injEq, and_true]
  refine ⟨?_, ?_, ?_, ?_, ?_, ?_, ?_, ?_⟩ <;> omega
theorem Inv.raw : Inv raw be8 := by
  refine Inv.map unum (Inv.take 8) (fun xs hb hz => ?_)
  obtain ⟨h1, h2⟩ := zgu xs 8 hz
  rw [h2]
  exact be8_unum _ (hb.take _) (by rw [List.length_take]; show min 8 xs.length = 8; omega)
theorem Inv.numR : Inv numR be8 := Inv.map wrap64 Inv.raw (fun _ _ _ => be8_wrap _)
theorem zil (l : List Int) : (strOfNums l).size = l.length := by
  unfold strOfNums
  show (List.map _ l).toArray.size = _
  simp
theorem Inv.txtR : Inv txtR txt := by
  refine Inv.bind (G := fun n s => (strOfNums (Cp.take s n).1, (Cp.take s n).2)) (g := fun n s => bytesOf s) (mk := fun _ s => s) Inv.raw (fun n => Inv.map strOfNums (Inv.take n) ?_) ?_
  · intro xs hb hz
    obtain ⟨h1, h2⟩ := zgu xs n hz
    rw [h2]
    exact zfd _ (hb.take _)
  · intro xs hb hz ys hy hzy
    obtain ⟨h1, h2⟩ := zgu ys _ hzy
    have h0 := (zfb (xs, 0) hb).1
    dsimp only
    rw [h2]
    dsimp only
    rw [txt, zil, List.length_take, show ((min (Cp.raw (xs, 0)).1.toNat ys.length : Nat) : Int) = (Cp.raw (xs, 0)).1 by omega]
theorem Inv.rep (k : Nat) : Inv (rep k) txts := by
  induction k with
  | zero => exact ⟨fun xs _ _ => rfl, fun s hs => hs, fun s hs => hs⟩
  | succ k ih =>
    exact Inv.bind (G := fun a s => Cp.rep k s) (g := fun a l => txts l) (mk := fun a l => a :: l) Inv.txtR (fun a => ih) (fun xs hb hz ys hy hzy => by simp [txts])
theorem zem {α : Type} (one : St → α × St) (h1 : ∀ s : St, s.2 ≠ 0 → (one s).2.2 ≠ 0) (k : Nat) : ∀ s : St, s.2 ≠ 0 → (manyGo one k s).2.2 ≠ 0 := by
  induction k with
  | zero => exact fun s h => h
  | succ k ih =>
    intro s h
    rw [manyGo]
    split
    · exact h
    · exact ih _ (h1 s h)
theorem Inv.manyGo {α : Type} {one : St → α × St} {f : α → List Int} (h : Inv one f) (k : Nat) : Inv (manyGo one k) (fun l => l.flatMap f) ∧ ∀ xs, Bs xs → (manyGo one k (xs, 0)).2.2 = 0 → (Cp.manyGo one k (xs, 0)).1.length = k := by
  induction k with
  | zero => exact ⟨⟨fun xs _ _ => rfl, fun s hs => hs, fun s hs => hs⟩, fun xs _ _ => rfl⟩
  | succ k ih =>
    have e : ∀ xs : List Int, Cp.manyGo one (k + 1) (xs, 0) = ((one (xs, 0)).1 :: (Cp.manyGo one k (one (xs, 0)).2).1, (Cp.manyGo one k (one (xs, 0)).2).2) := fun xs => by rw [Cp.manyGo, if_neg (by simp)]
    have hb := Inv.bind (G := fun a s => Cp.manyGo one k s) (g := fun a l => l.flatMap f) (h := fun l => l.flatMap f) (mk := fun a l => a :: l) h (fun a => ih.1) (fun xs hb hz ys hy hzy => by simp)
    refine ⟨⟨fun xs hx hz => ?_, zem one h.2.1 _, zic one h.2.2 _⟩, fun xs hx hz => ?_⟩
    · rw [e] at hz ⊢
      exact hb.1 xs hx hz
    · rw [e] at hz ⊢
      have h1 : (one (xs, 0)).2.2 = 0 := by
        by_cases c : (one (xs, 0)).2.2 = 0
        · exact c
        · exact absurd hz (zem one h.2.1 _ _ c)
      have h2 : (one (xs, 0)).2 = ((one (xs, 0)).2.1, 0) := Prod.ext rfl h1
      rw [h2] at hz ⊢
      dsimp only at hz ⊢
      rw [List.length_cons, ih.2 _ (h.2.2 (xs, 0) hx) hz]
theorem Inv.many {α : Type} {one : St → α × St} {f : α → List Int} (h : Inv one f) : Inv (many one) (fun l => be8 (l.length : Int) ++ l.flatMap f) := by
  have hG : ∀ n : Int, 0 ≤ n → Inv (fun s : St => Cp.manyGo one n.toNat (if (s.1.length : Int) < n then (s.1, 150) else s)) (fun l => l.flatMap f) := by
    intro n hn
    have hs : ∀ s : St, s.2 ≠ 0 → (if (s.1.length : Int) < n then (s.1, (150 : Int)) else s).2 ≠ 0 := fun s hs => by split; simp; exact hs
    refine ⟨fun xs hx hz => ?_, fun s hs' => zem one h.2.1 _ _ (hs s hs'), fun s hb => zic one h.2.2 _ _ (by split <;> exact hb)⟩
    dsimp only at hz ⊢
    by_cases c : (xs.length : Int) < n
    · rw [if_pos c] at hz
      exact absurd hz (zem one h.2.1 _ _ (by simp))
    · rw [if_neg c] at hz ⊢
      exact (Inv.manyGo h n.toNat).1.1 xs hx hz
  refine ⟨fun xs hx hz => ?_, fun s hs => ?_, zin one h.2.2⟩
  · have hr := zfb (xs, 0) hx
    have h1 : (Cp.raw (xs, 0)).2.2 = 0 := by
      by_cases c : (Cp.raw (xs, 0)).2.2 = 0
      · exact c
      · exact absurd hz ((hG _ hr.1).2.1 _ c)
    have h2 : (Cp.raw (xs, 0)).2 = ((Cp.raw (xs, 0)).2.1, 0) := Prod.ext rfl h1
    have h3 := Inv.raw.1 xs hx h1
    have hb2 := zir (xs, 0) hx
    have e : Cp.many one (xs, 0) = Cp.manyGo one (Cp.raw (xs, 0)).1.toNat (if (((Cp.raw (xs, 0)).2.1.length : Nat) : Int) < (Cp.raw (xs, 0)).1 then ((Cp.raw (xs, 0)).2.1, 150) else (Cp.raw (xs, 0)).2) := rfl
    rw [e] at hz ⊢
    by_cases c : (((Cp.raw (xs, 0)).2.1.length : Nat) : Int) < (Cp.raw (xs, 0)).1
    · rw [if_pos c] at hz
      exact absurd hz (zem one h.2.1 _ _ (by simp))
    · rw [if_neg c, h2] at hz ⊢
      have h4 := Inv.manyGo h (Cp.raw (xs, 0)).1.toNat
      have h5 := h4.2 _ hb2 hz
      have h6 := h4.1.1 _ hb2 hz
      dsimp only at h5 h6 ⊢
      rw [h5, Int.toNat_of_nonneg hr.1, List.append_assoc, ← h6]
      exact h3
  · have : (counted s).2 ≠ 0 := by
      have := Inv.raw.2.1 s hs
      unfold counted
      split
      · simp
      · exact this
    exact zem one h.2.1 _ _ this
theorem byteR_keep (m : Int) (s : St) (h : s.2 ≠ 0) : (byteR m s).2.2 ≠ 0 := by
  have h1 := take_keep s 1 h
  unfold byteR
  split
  · exact h1
  · dsimp only
    split
    · unfold failS
      rw [if_neg h1]
      exact h1
    · exact h1
theorem byteR_ok (m : Int) (xs : List Int) (h : (byteR m (xs, 0)).2.2 = 0) : ∃ x t, xs = x :: t ∧ x < m ∧ byteR m (xs, 0) = (x, (t, 0)) := by
  have h1 : (Cp.take (xs, 0) 1).2.2 = 0 := by
    by_cases c : (Cp.take (xs, 0) 1).2.2 = 0
    · exact c
    · exfalso
      revert h
      unfold byteR
      split
      · exact c
      · dsimp only
        split
        · unfold failS
          rw [if_neg c]
          exact c
        · exact c
  obtain ⟨h2, h3⟩ := zgu xs 1 h1
  match xs, h2 with
  | x :: t, _ =>
    have h4 : Cp.take (x :: t, 0) 1 = ([x], (t, 0)) := h3
    unfold byteR at h ⊢
    rw [h4] at h ⊢
    simp only [List.length_cons, List.length_nil, rd] at h ⊢
    by_cases c : m ≤ x
    · simp [c, failS] at h
    · exact ⟨x, t, rfl, by omega, by simp [c]⟩
theorem Inv.cmdR : Inv cmdR enc := by
  refine Inv.bind (G := fun o s => (let x := Cp.rep 6 s; let n := Cp.many Cp.txtR x.2; let a := Cp.numR n.2; let b := Cp.numR a.2; let c := Cp.numR b.2; ((x.1, n.1, a.1, b.1, c.1), c.2)))
    (g := fun o q => txts q.1 ++ (be8 (q.2.1.length : Int) ++ q.2.1.flatMap txt ++ (be8 q.2.2.1 ++ (be8 q.2.2.2.1 ++ be8 q.2.2.2.2)))) (mk := fun o q => Cmd.of o q.1 q.2.1 q.2.2.1 q.2.2.2.1 q.2.2.2.2) Inv.numR (fun o => ?_) ?_
  · refine Inv.bind (G := fun x s => (let n := Cp.many Cp.txtR s; let a := Cp.numR n.2; let b := Cp.numR a.2; let c := Cp.numR b.2; ((n.1, a.1, b.1, c.1), c.2))) (g := fun x q => be8 (q.1.length : Int) ++ q.1.flatMap txt ++ (be8 q.2.1 ++ (be8 q.2.2.1 ++ be8 q.2.2.2))) (mk := fun x q => (x, q)) (Inv.rep 6) (fun x => ?_) (fun _ _ _ _ _ _ => rfl)
    refine Inv.bind (G := fun n s => (let a := Cp.numR s; let b := Cp.numR a.2; let c := Cp.numR b.2; ((a.1, b.1, c.1), c.2))) (g := fun n q => be8 q.1 ++ (be8 q.2.1 ++ be8 q.2.2)) (mk := fun n q => (n, q)) (Inv.many Inv.txtR) (fun n => ?_) (fun _ _ _ _ _ _ => rfl)
    refine Inv.bind (G := fun a s => (let b := Cp.numR s; let c := Cp.numR b.2; ((b.1, c.1), c.2))) (g := fun a q => be8 q.1 ++ be8 q.2) (mk := fun a q => (a, q)) Inv.numR (fun a => ?_) (fun _ _ _ _ _ _ => rfl)
    exact Inv.bind (G := fun b s => Cp.numR s) (g := fun b q => be8 q) (mk := fun b q => (b, q)) Inv.numR (fun b => Inv.numR) (fun _ _ _ _ _ _ => rfl)
  · intro xs hb hz ys hy hzy
    have h6 : ∀ s : St, (Cp.rep 6 s).1.length = 6 := rep_len 6
    dsimp only
    generalize hq : (Cp.rep 6 (ys, 0)).1 = q
    have hl := h6 (ys, 0)
    rw [hq] at hl
    match q, hl with
    | [a, b, c, d, e, f], _ => simp [enc, Cmd.of, Cmd.six, txts, List.append_assoc]
theorem doneE_zero {s : St} (h : doneE s = 0) : s = ([], 0) := by
  obtain ⟨xs, b⟩ := s
  unfold doneE at h
  split at h
  · omega
  · rename_i c
    dsimp only at h c
    subst h
    have : xs = [] := List.eq_nil_of_length_eq_zero (by
      by_cases c2 : 0 < xs.length
      · exact absurd ⟨by simp, c2⟩ c
      · omega)
    rw [this]
end Go.Proofs.Ytjhcbggpbfejgaa.Cp
namespace Go.Proofs.Ytjhcbggpbfejgaa.Cr
open Go.RowKit Go.Proofs.zjt.zjq
open Go.Proofs.Ytjhcbggpbfejgaa.Cp
end Go.Proofs.Ytjhcbggpbfejgaa.Cr
