/- How a message reads as an argument, and what its bulk says of its bytes. The readers are printed by gen_rd.py. -/
import Derived.Test.YtjhcbggpbfejgaaRt
import Derived.Test.YtjhcbggpbfejgaaMz
import Derived.KernelRfl
namespace Go.Proofs.Ytjhcbggpbfejgaa.Rg
open Go.Proofs.YtjhcbggpbfejgaaW.PrintWords Go.RowKit Go.WideShapes Go.ChangeAt Go.ChangeShapes
set_option linter.unusedVariables false
set_option maxRecDepth 100000
section
variable {H : Type} {en : TypeId × Value → H} {w : World} {base : Nat} {spare : Nat → Bool} {held : Bool}
abbrev α61 := Int
def k61 : Kd α61 := (Kd.int .i64)
def ok61 : α61 → Prop := (IntOk .i64)
def sz61 : α61 → Nat := (fun _ => 1)
theorem cells61 : Try.prog.cellsOf 61 = 1 := by kernel_rfl
theorem rd61 : Rdg en Try.prog w base spare held k61 61 ok61 sz61 := Rdg.int Try.underlying61 cells61
abbrev α62 := (List α38)
def k62 : Kd α62 := (Kd.slice 38 k38)
def ok62 : α62 → Prop := (fun l => ∀ a ∈ l, ok38 a)
def sz62 : α62 → Nat := (fun l => tot sz38 l + 1)
theorem cells62 : Try.prog.cellsOf 62 = 1 := by kernel_rfl
theorem rd62 : Rdg en Try.prog w base spare held k62 62 ok62 sz62 := Rdg.slice Try.underlying62 cells62 rd38
abbrev α64 := (α3 × α3 × α36 × α9)
def k64 : Kd α64 := (Kd.pair k3 (Kd.pair k3 (Kd.pair k36 k9)))
def ok64 : α64 → Prop := (And2 ok3 (And2 ok3 (And2 ok36 ok9)))
def sz64 : α64 → Nat := (fun v => (Sum2 sz3 (Sum2 sz3 (Sum2 sz36 sz9))) v + 1)
theorem cells64 : Try.prog.cellsOf 64 = 4 := by kernel_rfl
theorem rd64 : Rdg en Try.prog w base spare held k64 64 ok64 sz64 := Rdg.struct Try.underlying64 (by rw [cells64]; rfl) (Fr.cons (i := 0) (o := 0) rd3 1 (Fr.cons (i := 1) (o := 1) rd3 2 (Fr.cons (i := 2) (o := 2) rd36 3 (Fr.last (i := 3) (o := 3) rd9 rfl rfl (by rw [cells64]; exact congrArg (3 + ·) cells9)) rfl rfl (congrArg (2 + ·) cells36)) rfl rfl (congrArg (1 + ·) cells3)) rfl rfl (congrArg (0 + ·) cells3))
abbrev α66 := (α61 × α3 × α3 × α3 × α3 × α3 × α4 × α3 × α3 × α62 × α64)
def k66 : Kd α66 := (Kd.pair k61 (Kd.pair k3 (Kd.pair k3 (Kd.pair k3 (Kd.pair k3 (Kd.pair k3 (Kd.pair k4 (Kd.pair k3 (Kd.pair k3 (Kd.pair k62 k64))))))))))
def ok66 : α66 → Prop := (And2 ok61 (And2 ok3 (And2 ok3 (And2 ok3 (And2 ok3 (And2 ok3 (And2 ok4 (And2 ok3 (And2 ok3 (And2 ok62 ok64))))))))))
def sz66 : α66 → Nat := (fun v => (Sum2 sz61 (Sum2 sz3 (Sum2 sz3 (Sum2 sz3 (Sum2 sz3 (Sum2 sz3 (Sum2 sz4 (Sum2 sz3 (Sum2 sz3 (Sum2 sz62 sz64)))))))))) v + 1)
theorem cells66 : Try.prog.cellsOf 66 = 14 := by kernel_rfl
theorem rd66 : Rdg en Try.prog w base spare held k66 66 ok66 sz66 := Rdg.struct Try.underlying66 (by rw [cells66]; rfl) (Fr.cons (i := 0) (o := 0) rd61 1 (Fr.cons (i := 1) (o := 1) rd3 2 (Fr.cons (i := 2) (o := 2) rd3 3 (Fr.cons (i := 3) (o := 3) rd3 4 (Fr.cons (i := 4) (o := 4) rd3 5 (Fr.cons (i := 5) (o := 5) rd3 6 (Fr.cons (i := 6) (o := 6) rd4 7 (Fr.cons (i := 7) (o := 7) rd3 8 (Fr.cons (i := 8) (o := 8) rd3 9 (Fr.cons (i := 9) (o := 9) rd62 10 (Fr.last (i := 10) (o := 10) rd64 rfl rfl (by rw [cells66]; exact congrArg (10 + ·) cells64)) rfl rfl (congrArg (9 + ·) cells62)) rfl rfl (congrArg (8 + ·) cells3)) rfl rfl (congrArg (7 + ·) cells3)) rfl rfl (congrArg (6 + ·) cells4)) rfl rfl (congrArg (5 + ·) cells3)) rfl rfl (congrArg (4 + ·) cells3)) rfl rfl (congrArg (3 + ·) cells3)) rfl rfl (congrArg (2 + ·) cells3)) rfl rfl (congrArg (1 + ·) cells3)) rfl rfl (congrArg (0 + ·) cells61))
theorem open66 {w : World} {v : α66} {cs : List Value} (h : k66.K w v cs) : ∃ (A0 : Option Addr) (c0 : Nat) (A1 : Option Addr) (c1 : Nat), cs = [.int .i64 v.1, .int .i64 v.2.1, .int .i64 v.2.2.1, .int .i64 v.2.2.2.1, .int .i64 v.2.2.2.2.1, .int .i64 v.2.2.2.2.2.1, .bool v.2.2.2.2.2.2.1, .int .i64 v.2.2.2.2.2.2.2.1, .int .i64 v.2.2.2.2.2.2.2.2.1, .slice A0 (v.2.2.2.2.2.2.2.2.2.1).length c0, .int .i64 v.2.2.2.2.2.2.2.2.2.2.1, .int .i64 v.2.2.2.2.2.2.2.2.2.2.2.1, .slice A1 (v.2.2.2.2.2.2.2.2.2.2.2.2.1).length c1, .string v.2.2.2.2.2.2.2.2.2.2.2.2.2] ∧ (v.2.2.2.2.2.2.2.2.2.1).length ≤ c0 ∧ Kd.C k38 w A0 (v.2.2.2.2.2.2.2.2.2.1).length (v.2.2.2.2.2.2.2.2.2.1) ∧ (v.2.2.2.2.2.2.2.2.2.2.2.2.1).length ≤ c1 ∧ Kd.C k3 w A1 (v.2.2.2.2.2.2.2.2.2.2.2.2.1).length (v.2.2.2.2.2.2.2.2.2.2.2.2.1) := by
  obtain ⟨_, _, rfl, rfl, ⟨_, _, rfl, rfl, ⟨_, _, rfl, rfl, ⟨_, _, rfl, rfl, ⟨_, _, rfl, rfl, ⟨_, _, rfl, rfl, ⟨_, _, rfl, rfl, ⟨_, _, rfl, rfl, ⟨_, _, rfl, rfl, ⟨_, _, rfl, ⟨A0, c0, rfl, hl0, hC0⟩, ⟨_, _, rfl, rfl, ⟨_, _, rfl, rfl, ⟨_, _, rfl, ⟨A1, c1, rfl, hl1, hC1⟩, rfl⟩⟩⟩⟩⟩⟩⟩⟩⟩⟩⟩⟩⟩ := h
  exact ⟨A0, c0, A1, c1, rfl, hl0, hC0, hl1, hC1⟩
end
def toX (e : α38) : Mk.S38 := ⟨e.1, e.2.1, ⟨e.2.2.1.1, e.2.2.1.2.1, e.2.2.1.2.2.1, e.2.2.1.2.2.2.1, e.2.2.1.2.2.2.2.1, e.2.2.1.2.2.2.2.2.1, e.2.2.1.2.2.2.2.2.2.1, e.2.2.1.2.2.2.2.2.2.2.1, e.2.2.1.2.2.2.2.2.2.2.2.1, e.2.2.1.2.2.2.2.2.2.2.2.2.1, e.2.2.1.2.2.2.2.2.2.2.2.2.2⟩, e.2.2.2⟩
def toR (v : α66) : Mq.Rpc := ⟨v.1, v.2.1, v.2.2.1, v.2.2.2.1, v.2.2.2.2.1, v.2.2.2.2.2.1, v.2.2.2.2.2.2.1, v.2.2.2.2.2.2.2.1, v.2.2.2.2.2.2.2.2.1, (v.2.2.2.2.2.2.2.2.2.1).map toX, v.2.2.2.2.2.2.2.2.2.2.1, v.2.2.2.2.2.2.2.2.2.2.2.1, v.2.2.2.2.2.2.2.2.2.2.2.2.1, v.2.2.2.2.2.2.2.2.2.2.2.2.2⟩
open Go.Proofs.Ytjhcbggpbfejgaa.Cp Go.Proofs.Ytjhcbggpbfejgaa.Mq Go.Proofs.Ytjhcbggpbfejgaa.Mz
theorem mi64 {n : Int} (h : IntOk .i64 n) : I64 n := bounds_i64 h
theorem mtxts (l : List ByteArray) : (txts l).length ≤ 8 * tot sz9 l := by
  induction l with
  | nil => exact Nat.le_refl _
  | cons s l ih =>
    have e : txts (s :: l) = txt s ++ txts l := by simp [txts]
    rw [e, List.length_append, txt_len]
    simp only [tot, sz9]
    omega
theorem mcmd (e : α38) : (enc (logOf (toX e)).cmd).length ≤ 88 + 8 * sz38 e ∧ e.2.2.2.length ≤ sz38 e := by
  have h := mtxts e.2.2.1.2.2.2.2.2.2.2.1
  have h2 := tot_len (sz := sz3) (fun _ => Nat.le_refl _) e.2.2.2
  rw [enc_len]
  simp only [logOf, toX, Cmd.six, txts, List.flatMap_cons, List.flatMap_nil, List.length_append, List.length_nil, txt_len] at h ⊢
  simp only [sz38, sz25, sz22, sz3, sz35, sz9, sz23, sz36, Sum2]
  (try simp only [sz3, sz9] at h h2)
  omega
theorem mitem (e : α38) : (logItem (toX e)).length ≤ 129 * sz38 e := by
  have h := mcmd e
  have h1 := refLog_len (logOf (toX e))
  have h4 : (logOf (toX e)).nodes.length = e.2.2.2.length := rfl
  have h5 : 1 ≤ sz38 e := by simp only [sz38]; omega
  have h6 : (logBytes (toX e)).length ≤ 17 + (enc (logOf (toX e)).cmd).length + 8 * e.2.2.2.length := by
    unfold logBytes
    rw [putLog_ref]
    split
    · simp only [Option.getD_some]; omega
    · simp
  simp only [logItem, List.length_append, be8_len]
  omega
theorem mitems (l : List α38) : ((l.map toX).flatMap logItem).length ≤ 129 * tot sz38 l := by
  induction l with
  | nil => exact Nat.le_refl _
  | cons a l ih =>
    have h := mitem a
    simp only [List.map_cons, List.flatMap_cons, List.length_append, tot]
    omega
theorem msg_ok (v : α66) (h : ok66 v) (hs : sz66 v ≤ 1048576) : ROk (toR v) ∧ fitsRpc (toR v) := by
  have hi := mitems v.2.2.2.2.2.2.2.2.2.1
  have hn := tot_len (sz := sz3) (fun _ => Nat.le_refl _) v.2.2.2.2.2.2.2.2.2.2.2.2.1
  have hm : ∀ e ∈ v.2.2.2.2.2.2.2.2.2.1, sz38 e ≤ tot sz38 v.2.2.2.2.2.2.2.2.2.1 := fun e he => tot_mem _ e he
  have hb : 129 * tot sz38 v.2.2.2.2.2.2.2.2.2.1 + 8 * v.2.2.2.2.2.2.2.2.2.2.2.2.1.length + v.2.2.2.2.2.2.2.2.2.2.2.2.2.size ≤ 129 * 1048576 ∧ tot sz38 v.2.2.2.2.2.2.2.2.2.1 ≤ 1048576 := by
    simp only [sz66, sz64, sz62, sz61, sz36, sz3, sz4, sz9, Sum2] at hs hn ⊢
    omega
  have hl : (encRpc (toR v)).length < 68719476736 := by
    rw [enc_len']
    simp only [toR] at hi ⊢
    omega
  obtain ⟨o1, o2, o3, o4, o5, o6, _, o8, o9, o10, o11, o12, o13, _⟩ := h
  refine ⟨⟨mi64 o2, mi64 o3, mi64 o4, mi64 o5, mi64 o6, mi64 o8, mi64 o9, mi64 o11, mi64 o12, fun n hn => mi64 (o13 n hn), fun x hx => ?_, hl⟩, by omega, fun x hx => ?_⟩
  · obtain ⟨e, he, rfl⟩ := List.mem_map.1 hx
    have ho := o10 e he
    have h1 := mcmd e
    have h2 := hm e he
    exact ⟨⟨mi64 ho.1, ⟨mi64 ho.2.2.1.1, mi64 ho.2.2.1.2.2.2.2.2.2.2.2.1, mi64 ho.2.2.1.2.2.2.2.2.2.2.2.2.1, mi64 ho.2.2.1.2.2.2.2.2.2.2.2.2.2⟩, fun n hn => mi64 (ho.2.2.2 n hn)⟩, by omega, by show e.2.2.2.length < _; omega⟩
  · obtain ⟨e, he, rfl⟩ := List.mem_map.1 hx
    have h1 := mcmd e
    have h2 := hm e he
    rw [nums8_len]
    show (enc (logOf (toX e)).cmd).length + 8 * e.2.2.2.length + 17 < _
    omega
end Go.Proofs.Ytjhcbggpbfejgaa.Rg
