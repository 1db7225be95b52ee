/- Plain functions for the codec's bytes: what is written, and what is read back; no program in it. -/
import Derived.Test.YtjhcbggpbfejgaaVw
import Derived.Laws.BitsAllLaws
namespace Go.Proofs.Ytjhcbggpbfejgaa.Cp
open Go.RowKit Go.Proofs.zjt.zjq
/-- The byte of a number at place j from the front. -/
def byteAt (n : Int) (j : Nat) : Int := n / 2 ^ (56 - 8 * j) % 256
/-- Eight bytes of a number, the greatest first. -/
def be8 (n : Int) : List Int := (List.range 8).map (byteAt n)
theorem zbo (n : Int) : (be8 n).length = 8 := rfl
theorem be8_take (n : Int) (j : Nat) (hj : j < 8) : (be8 n).take (j + 1) = (be8 n).take j ++ [byteAt n j] := by
  rw [List.take_succ_eq_append_getElem (by simpa [zbo] using hj)]
  simp [be8]
theorem zfs (n : Int) (j : Nat) (hj : j < 8) : IntKind.u64.wrap n / 2 ^ (56 - 8 * j) % 256 = byteAt n j := by
  have e : IntKind.u64.wrap n = n % 18446744073709551616 := by simp [IntKind.wrap, IntKind.signed, IntKind.bits]
  rw [e]
  unfold byteAt
  match j, hj with
  | 0, _ => simp only [Nat.mul_zero, Nat.sub_zero]; omega
  | 1, _ => simp only [Nat.mul_one]; omega
  | 2, _ => omega
  | 3, _ => omega
  | 4, _ => omega
  | 5, _ => omega
  | 6, _ => omega
  | 7, _ => omega
/-- A text: its length and its bytes. -/
def txt (s : ByteArray) : List Int := be8 (s.size : Int) ++ bytesOf s
theorem zdh (s : ByteArray) : (txt s).length = 8 + s.size := by rw [txt, List.length_append, zbo, bytesOf_length]
/-- Texts, one behind the other. -/
def txts (l : List ByteArray) : List Int := l.flatMap txt
theorem zhy (l : List ByteArray) (j : Nat) (hj : j < l.length) : txts (l.take (j + 1)) = txts (l.take j) ++ txt (l.getD j ByteArray.empty) := by
  unfold txts
  rw [List.take_succ_eq_append_getElem hj, List.flatMap_append]
  congr 1
  simp [List.getD_eq_getElem?_getD, List.getElem?_eq_getElem hj]
theorem txts_split (l : List ByteArray) (j : Nat) (hj : j < l.length) : (txts (l.take j)).length + (txt (l.getD j ByteArray.empty)).length ≤ (txts l).length := by
  have h : txts l = txts (l.take (j + 1)) ++ txts (l.drop (j + 1)) := by rw [txts, txts, txts, ← List.flatMap_append, List.take_append_drop]
  rw [h, zhy l j hj]
  simp only [List.length_append]
  omega
/-- Numbers, one behind the other. -/
def nums8 (l : List Int) : List Int := l.flatMap be8
theorem zhi (l : List Int) (j : Nat) (hj : j < l.length) : nums8 (l.take (j + 1)) = nums8 (l.take j) ++ be8 (l.getD j 0) := by
  unfold nums8
  rw [List.take_succ_eq_append_getElem hj, List.flatMap_append]
  congr 1
  simp [List.getD_eq_getElem?_getD, List.getElem?_eq_getElem hj]
theorem nums8_split (l : List Int) (j : Nat) (hj : j < l.length) : (nums8 (l.take j)).length + (be8 (l.getD j 0)).length ≤ (nums8 l).length := by
  have h : nums8 l = nums8 (l.take (j + 1)) ++ nums8 (l.drop (j + 1)) := by rw [nums8, nums8, nums8, ← List.flatMap_append, List.take_append_drop]
  rw [h, zhi l j hj]
  simp only [List.length_append]
  omega
/-- A command. -/
structure Cmd where
  op : Int
  book : ByteArray
  name : ByteArray
  data : ByteArray
  mat : ByteArray
  non : ByteArray
  token : ByteArray
  names : List ByteArray
  at_ : Int
  session : Int
  seq : Int
def Cmd.six (c : Cmd) : List ByteArray := [c.book, c.name, c.data, c.mat, c.non, c.token]
/-- A command's bytes. -/
def enc (c : Cmd) : List Int := be8 c.op ++ txts c.six ++ (be8 (c.names.length : Int) ++ txts c.names) ++ be8 c.at_ ++ be8 c.session ++ be8 c.seq
theorem zhk (c : Cmd) : (enc c).length = 40 + (txts c.six).length + (txts c.names).length := by
  simp only [enc, List.length_append, zbo]
  omega
/-- All are bytes. -/
def Bs (l : List Int) : Prop := ∀ x ∈ l, 0 ≤ x ∧ x < 256
theorem Bs.append {a b : List Int} (ha : Bs a) (hb : Bs b) : Bs (a ++ b) := fun x hx => (List.mem_append.1 hx).elim (ha x) (hb x)
theorem Bs.be8 (n : Int) : Bs (be8 n) := by
  intro x hx
  simp only [Cp.be8, List.mem_map] at hx
  obtain ⟨j, _, rfl⟩ := hx
  unfold byteAt
  omega
theorem Bs.bytesOf (s : ByteArray) : Bs (bytesOf s) := by
  intro x hx
  simp only [Go.Proofs.zjt.zjq.bytesOf, List.mem_map] at hx
  obtain ⟨b, _, rfl⟩ := hx
  have := b.toNat_lt
  omega
theorem Bs.txt (s : ByteArray) : Bs (txt s) := (Bs.be8 _).append (Bs.bytesOf s)
theorem Bs.flat {α : Type} (f : α → List Int) (hf : ∀ a, Bs (f a)) (l : List α) : Bs (l.flatMap f) := by
  intro x hx
  obtain ⟨a, _, h⟩ := List.mem_flatMap.1 hx
  exact hf a x h
theorem Bs.txts (l : List ByteArray) : Bs (txts l) := Bs.flat _ Bs.txt l
theorem Bs.nums8 (l : List Int) : Bs (nums8 l) := Bs.flat _ Bs.be8 l
theorem Bs.enc (c : Cmd) : Bs (enc c) := ((((((Bs.be8 _).append (Bs.txts _)).append ((Bs.be8 _).append (Bs.txts _))).append (Bs.be8 _)).append (Bs.be8 _)).append (Bs.be8 _))
theorem zfd (l : List Int) (h : Bs l) : bytesOf (strOfNums l) = l := by
  unfold Go.Proofs.zjt.zjq.bytesOf strOfNums
  simp only [List.map_map]
  conv => rhs; rw [← List.map_id l]
  refine List.map_congr_left fun x hx => ?_
  have := h x hx
  simp [Function.comp]
  omega
theorem str_inj {a b : List Int} (ha : Bs a) (hb : Bs b) : strOfNums a = strOfNums b ↔ a = b :=
  ⟨fun h => by rw [← zfd a ha, ← zfd b hb, h], fun h => by rw [h]⟩
theorem str_bytesOf (s : ByteArray) : strOfNums (bytesOf s) = s := by
  cases s with
  | mk d =>
    simp [strOfNums, Go.Proofs.zjt.zjq.bytesOf, Function.comp_def]
def zeroCmd : Cmd := ⟨0, ⟨#[]⟩, ⟨#[]⟩, ⟨#[]⟩, ⟨#[]⟩, ⟨#[]⟩, ⟨#[]⟩, [], 0, 0, 0⟩
/-- Is a command the zero one, by its bytes? -/
def noneB (c : Cmd) : Bool := decide (c.names.length = 0) && decide (enc { c with names := [] } = enc zeroCmd)
structure Log where
  term : Int
  kind : Int
  cmd : Cmd
  nodes : List Int
/-- An entry's bytes, where it may be. -/
def putLog (l : Log) : Option (List Int) :=
  if l.kind = 0 then (if noneB l.cmd = true ∧ l.nodes.length = 0 then some (be8 l.term ++ [0]) else none)
  else if l.kind = 1 then (if l.nodes.length = 0 then some (be8 l.term ++ [1] ++ enc l.cmd) else none)
  else if l.kind = 2 then (if noneB l.cmd = true then some (be8 l.term ++ [2] ++ (be8 (l.nodes.length : Int) ++ nums8 l.nodes)) else none)
  else none
abbrev St := List Int × Int
def take (s : St) (n : Int) : List Int × St := if s.2 = 150 ∨ (s.1.length : Int) < n then ([], (s.1, 150)) else (s.1.take n.toNat, (s.1.drop n.toNat, s.2))
/-- The number that bytes tell. -/
def unum (l : List Int) : Int := l.foldl (fun v x => v * 256 + x) 0
theorem unum_snoc (l : List Int) (x : Int) : unum (l ++ [x]) = unum l * 256 + x := by simp [unum]
theorem ufold_bd (l : List Int) : ∀ v : Int, 0 ≤ v → Bs l → v * 256 ^ l.length ≤ l.foldl (fun v x => v * 256 + x) v ∧ l.foldl (fun v x => v * 256 + x) v < (v + 1) * 256 ^ l.length := by
  induction l with
  | nil => intro v _ _; simp; omega
  | cons x l ih =>
    intro v hv h
    have h2 := h x (by simp)
    obtain ⟨i1, i2⟩ := ih (v * 256 + x) (by omega) (fun y hy => h y (by simp [hy]))
    simp only [List.foldl_cons, List.length_cons, Int.pow_succ]
    have hp : (0 : Int) ≤ 256 ^ l.length := Int.pow_nonneg (by omega)
    generalize (256 : Int) ^ l.length = p at *
    have e1 : v * 256 * p ≤ (v * 256 + x) * p := Int.mul_le_mul_of_nonneg_right (by omega) hp
    have e2 : (v * 256 + x + 1) * p ≤ ((v + 1) * 256) * p := Int.mul_le_mul_of_nonneg_right (by omega) hp
    have e3 : v * (p * 256) = v * 256 * p := by rw [Int.mul_comm p, Int.mul_assoc]
    have e4 : (v + 1) * (p * 256) = (v + 1) * 256 * p := by rw [Int.mul_comm p, Int.mul_assoc]
    omega
theorem unum_bd (l : List Int) (h : Bs l) : 0 ≤ unum l ∧ unum l < 256 ^ l.length := by
  have := ufold_bd l 0 (by omega) h
  simpa [unum] using this
def raw (s : St) : Int × St := (unum (take s 8).1, (take s 8).2)
theorem take_len (s : St) (n : Int) (h : 0 ≤ n) : ((take s n).1.length : Int) ≤ n := by
  unfold take
  split
  · simpa using h
  · simp only [List.length_take]; omega
theorem Bs.take {l : List Int} (h : Bs l) (n : Nat) : Bs (l.take n) := fun x hx => h x (List.mem_of_mem_take hx)
theorem Bs.drop {l : List Int} (h : Bs l) (n : Nat) : Bs (l.drop n) := fun x hx => h x (List.mem_of_mem_drop hx)
theorem zdl (s : St) (n : Int) (h : Bs s.1) : Bs (Cp.take s n).1 ∧ Bs (Cp.take s n).2.1 := by
  unfold Cp.take
  split
  · exact ⟨fun x hx => by simp at hx, h⟩
  · exact ⟨h.take _, h.drop _⟩
theorem zfb (s : St) (h : Bs s.1) : 0 ≤ (raw s).1 ∧ (raw s).1 < 18446744073709551616 := by
  have h1 := unum_bd _ (zdl s 8 h).1
  have h2 := take_len s 8 (by omega)
  have e : ∀ k : Nat, (256 : Int) ^ k = ((256 ^ k : Nat) : Int) := fun k => by rw [Int.natCast_pow]; rfl
  refine ⟨h1.1, Int.lt_of_lt_of_le h1.2 ?_⟩
  rw [e]
  have h3 : 256 ^ (Cp.take s 8).1.length ≤ 256 ^ 8 := Nat.pow_le_pow_right (by omega) (by omega)
  exact Int.ofNat_le.2 h3
theorem or_byte (y b : Int) (h0 : 0 ≤ y) (h1 : y < 72057594037927936) (h2 : 0 ≤ b) (h3 : b < 256) : bits .or .u64 (IntKind.u64.wrap (y * 256)) b = y * 256 + b := by
  have e : IntKind.u64.wrap (y * 256) = y * 256 := by
    simp [IntKind.wrap, IntKind.signed, IntKind.bits]; omega
  rw [e, u64_or _ _ (by omega) (by omega) (by omega) (by omega)]
  obtain ⟨n, rfl⟩ := Int.eq_ofNat_of_zero_le h0
  obtain ⟨m, rfl⟩ := Int.eq_ofNat_of_zero_le h2
  have := Nat.shiftLeft_add_eq_or_of_lt (i := 8) (b := m) (by omega) n
  rw [Nat.shiftLeft_eq] at this
  have e1 : ((n : Int) * 256).toNat = n * 2 ^ 8 := by omega
  rw [e1, Int.toNat_natCast, ← this]
  omega
theorem zii (ys : List Int) (h : Bs ys) (hl : ys.length ≤ 8) (k : Nat) (hk : k < ys.length) : 0 ≤ unum (ys.take k) ∧ unum (ys.take k) < 72057594037927936 := by
  have h1 := unum_bd _ (h.take k)
  have e : ∀ k : Nat, (256 : Int) ^ k = ((256 ^ k : Nat) : Int) := fun k => by rw [Int.natCast_pow]; rfl
  refine ⟨h1.1, Int.lt_of_lt_of_le h1.2 ?_⟩
  rw [e]
  have h3 : 256 ^ (ys.take k).length ≤ 256 ^ 7 := Nat.pow_le_pow_right (by omega) (by rw [List.length_take]; omega)
  exact Int.ofNat_le.2 h3
theorem zgz (ys : List Int) (x : Int) (h0 : 0 ≤ x) (h1 : x < ys.length) : unum (ys.take (x + 1).toNat) = unum (ys.take x.toNat) * 256 + rd ys x := by
  rw [show (x + 1).toNat = x.toNat + 1 by omega, List.take_succ_eq_append_getElem (by omega), unum_snoc]
  congr 1
  unfold rd
  rw [List.getD_eq_getElem?_getD, List.getElem?_eq_getElem (by omega)]
  rfl
theorem zir (s : St) (h : Bs s.1) : Bs (raw s).2.1 := (zdl s 8 h).2
/-- A number; a text; a byte below a bound. -/
def numR (s : St) : Int × St := (wrap64 (raw s).1, (raw s).2)
def txtR (s : St) : ByteArray × St := (strOfNums (take (raw s).2 (raw s).1).1, (take (raw s).2 (raw s).1).2)
theorem zhh (s : St) (h : Bs s.1) : Bs (txtR s).2.1 := (zdl _ _ (zir s h)).2
theorem zcw (s : St) (h : Bs s.1) : Bs (numR s).2.1 := zir s h
def manyGo {α : Type} (one : St → α × St) : Nat → St → List α × St
  | 0, s => ([], s)
  | k + 1, s => if s.2 = 150 then ([], s) else ((one s).1 :: (manyGo one k (one s).2).1, (manyGo one k (one s).2).2)
/-- Behind the count. -/
def counted (s : St) : St := if ((raw s).2.1.length : Int) < (raw s).1 then ((raw s).2.1, 150) else (raw s).2
def many {α : Type} (one : St → α × St) (s : St) : List α × St := manyGo one (raw s).1.toNat (counted s)
theorem zen (s : St) (h : Bs s.1) : Bs (counted s).1 := by
  unfold counted
  split <;> exact zir s h
/-- What a reader leaves is no longer than what it had. -/
theorem zel (s : St) (n : Int) : (take s n).2.1.length ≤ s.1.length := by
  unfold take
  split
  · exact Nat.le_refl _
  · simp only [List.length_drop]; omega
theorem zfe (s : St) : (raw s).2.1.length ≤ s.1.length := zel s 8
theorem zfa (s : St) : (counted s).1.length ≤ s.1.length := by
  unfold counted
  split <;> exact zfe s
theorem zgt (s : St) : (txtR s).2.1.length ≤ s.1.length := Nat.le_trans (zel _ _) (zfe s)
theorem zfn (s : St) (h : (counted s).2 ≠ 150) : (raw s).1 ≤ s.1.length := by
  unfold counted at h
  split at h
  · exact absurd rfl h
  · have := zfe s; omega
/-- So many texts. -/
def rep : Nat → St → List ByteArray × St
  | 0, s => ([], s)
  | k + 1, s => ((txtR s).1 :: (rep k (txtR s).2).1, (rep k (txtR s).2).2)
theorem rep_le (k : Nat) : ∀ s : St, (rep k s).2.1.length ≤ s.1.length := by
  induction k with
  | zero => exact fun s => Nat.le_refl _
  | succ k ih => exact fun s => Nat.le_trans (ih _) (zgt s)
theorem rep_len (k : Nat) : ∀ s : St, (rep k s).1.length = k := by
  induction k with
  | zero => exact fun s => rfl
  | succ k ih => intro s; simp [rep, ih]
def Cmd.of (op : Int) (six : List ByteArray) (names : List ByteArray) (x y z : Int) : Cmd :=
  ⟨op, six.getD 0 ⟨#[]⟩, six.getD 1 ⟨#[]⟩, six.getD 2 ⟨#[]⟩, six.getD 3 ⟨#[]⟩, six.getD 4 ⟨#[]⟩, six.getD 5 ⟨#[]⟩, names, x, y, z⟩
/-- A command that is read. -/
def cmdR (s : St) : Cmd × St :=
  let o := numR s
  let x := rep 6 o.2
  let n := many txtR x.2
  let a := numR n.2
  let b := numR a.2
  let c := numR b.2
  (Cmd.of o.1 x.1 n.1 a.1 b.1 c.1, c.2)
theorem zic {α : Type} (one : St → α × St) (h1 : ∀ s : St, Bs s.1 → Bs (one s).2.1) (k : Nat) : ∀ s : St, Bs s.1 → Bs (manyGo one k s).2.1 := by
  induction k with
  | zero => exact fun s h => h
  | succ k ih =>
    intro s h
    rw [manyGo]
    split
    · exact h
    · exact ih _ (h1 s h)
theorem zin {α : Type} (one : St → α × St) (h1 : ∀ s : St, Bs s.1 → Bs (one s).2.1) (s : St) (h : Bs s.1) : Bs (many one s).2.1 := zic one h1 _ _ (zen s h)
theorem zgw (s : St) : (numR s).2.1.length ≤ s.1.length := zfe s
def doneE (s : St) : Int := if s.2 ≠ 150 ∧ 0 < s.1.length then 151 else s.2
def getCommand (xs : List Int) : Cmd × Int := if doneE (cmdR (xs, 0)).2 = 0 then ((cmdR (xs, 0)).1, 0) else (zeroCmd, doneE (cmdR (xs, 0)).2)
def failS (s : St) (e : Int) : St := if s.2 = 0 then (s.1, e) else s
/-- One byte, below a bound. -/
def byteR (most : Int) (s : St) : Int × St :=
  if (take s 1).1.length = 0 then (0, (take s 1).2)
  else (rd (take s 1).1 0, if most ≤ rd (take s 1).1 0 then failS (take s 1).2 31 else (take s 1).2)
theorem failS_1 (s : St) (e : Int) : (failS s e).1 = s.1 := by
  unfold failS
  split <;> rfl
theorem byteR_1 (m : Int) (s : St) : (byteR m s).2.1 = (take s 1).2.1 := by
  unfold byteR
  split
  · rfl
  · dsimp only
    split
    · exact failS_1 _ _
    · rfl
theorem zhw (m : Int) (s : St) (h : Bs s.1) : Bs (byteR m s).2.1 := by
  rw [byteR_1]
  exact (zdl s 1 h).2
theorem zhe (m : Int) (s : St) : (byteR m s).2.1.length ≤ s.1.length := by
  rw [byteR_1]
  exact zel s 1
theorem zhx (m : Int) (s : St) (h : Bs s.1) : 0 ≤ (byteR m s).1 ∧ (byteR m s).1 < 256 := by
  unfold byteR
  split
  · exact ⟨by simp, by simp⟩
  · rename_i hz
    have h2 := (zdl s 1 h).1
    dsimp only
    unfold rd
    rw [List.getD_eq_getElem?_getD, List.getElem?_eq_getElem (by omega)]
    exact h2 _ (by simp)
/-- An entry that is read. -/
def logR (s : St) : Log × St :=
  let t := numR s
  let k := byteR 3 t.2
  if k.1 = 1 then (⟨t.1, k.1, (cmdR k.2).1, []⟩, (cmdR k.2).2)
  else if k.1 = 2 then (⟨t.1, k.1, zeroCmd, (many numR k.2).1⟩, (many numR k.2).2)
  else (⟨t.1, k.1, zeroCmd, []⟩, k.2)
def zeroLog : Log := ⟨0, 0, zeroCmd, []⟩
def getLog (xs : List Int) : Log × Int := if doneE (logR (xs, 0)).2 = 0 then ((logR (xs, 0)).1, 0) else (zeroLog, doneE (logR (xs, 0)).2)
end Go.Proofs.Ytjhcbggpbfejgaa.Cp
