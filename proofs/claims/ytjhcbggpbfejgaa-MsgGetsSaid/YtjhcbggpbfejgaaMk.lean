/- The kinds of entries and commands as values: a row of texts, a row of numbers, a command, an entry; what their cells hold. -/
import Derived.Test.YtjhcbggpbfejgaaProg
import Derived.Below
import Derived.Deep.Draws
import Derived.Deep.AppendLies
import Derived.Maps.AppendAt
import Derived.OwnWalk
import Derived.Laws.BytesArg
import Derived.Laws.MakeOwn
import Derived.Laws.OwnMore
import Derived.Deep.OwnRows
import Derived.Tactics
import Derived.Lib.ConvBytes
import Derived.Laws.Slices
import Derived.WalkKit
import Derived.KernelRfl
import Derived.RowKit3
import Derived.Deep.LoopGhost
import Derived.Deep.QuietTactic
import Derived.BigQuiet
import Derived.WideLaws
import Derived.Deep.DeepCutAuto
import Derived.Deep.CutBlock
import Derived.Deep.RegionHeld3
import Derived.Laws.Rows
import Derived.Lib.AppendStr
import Derived.ArgAppend
import Derived.Laws.IdiomCopy
import Derived.OrdersHeld
import Derived.Laws.BitsLemmas
import Derived.RowKit
import Derived.Test.YtjhcbggpbfejgaaVw
namespace Go.Proofs.Ytjhcbggpbfejgaa.Mk
open Go.RowKit Go.Proofs.zjt.zjq Go.Proofs.zjt.zjr Go.Proofs.zjt.zjs
set_option linter.unusedVariables false
set_option linter.unusedSimpArgs false
-- the values' own types
structure S25 where
  f0 : Int
  f1 : ByteArray
  f2 : ByteArray
  f3 : ByteArray
  f4 : ByteArray
  f5 : ByteArray
  f6 : ByteArray
  f7 : (List ByteArray)
  f8 : Int
  f9 : Int
  f10 : Int
def z25 : S25 := ⟨(0 : Int), (⟨#[]⟩ : ByteArray), (⟨#[]⟩ : ByteArray), (⟨#[]⟩ : ByteArray), (⟨#[]⟩ : ByteArray), (⟨#[]⟩ : ByteArray), (⟨#[]⟩ : ByteArray), ([] : List ByteArray), (0 : Int), (0 : Int), (0 : Int)⟩
def k25 : Kd S25 := Kd.iso (Kd.pair (Kd.int .i64) (Kd.pair Kd.string (Kd.pair Kd.string (Kd.pair Kd.string (Kd.pair Kd.string (Kd.pair Kd.string (Kd.pair Kd.string (Kd.pair (Kd.slice 9 Kd.string) (Kd.pair (Kd.int .i64) (Kd.pair (Kd.int .i64) (Kd.int .i64))))))))))) (fun x : S25 => (x.f0, x.f1, x.f2, x.f3, x.f4, x.f5, x.f6, x.f7, x.f8, x.f9, x.f10))
theorem k25_open {w : World} {x : S25} {cs : List Value} (h : k25.K w x cs) : ∃ A7 c7, cs = [.int .i64 x.f0, .string x.f1, .string x.f2, .string x.f3, .string x.f4, .string x.f5, .string x.f6, .slice A7 x.f7.length c7, .int .i64 x.f8, .int .i64 x.f9, .int .i64 x.f10] ∧ x.f7.length ≤ c7 ∧ Kd.string.C w A7 x.f7.length x.f7 := by
  obtain ⟨_, _, rfl, rfl, ⟨_, _, rfl, rfl, ⟨_, _, rfl, rfl, ⟨_, _, rfl, rfl, ⟨_, _, rfl, rfl, ⟨_, _, rfl, rfl, ⟨_, _, rfl, rfl, ⟨_, _, rfl, ⟨A7, c7, rfl, l7, g7⟩, ⟨_, _, rfl, rfl, ⟨_, _, rfl, rfl, rfl⟩⟩⟩⟩⟩⟩⟩⟩⟩⟩ := h
  exact ⟨A7, c7, rfl, l7, g7⟩
theorem k25_mkM (w : World) (base : Nat) (ok : Nat → Prop) (x : S25) {v7 : Value} (g7 : Kd.string.R 9 w base ok v7 x.f7) : k25.M w base ok x [.int .i64 x.f0, .string x.f1, .string x.f2, .string x.f3, .string x.f4, .string x.f5, .string x.f6, v7, .int .i64 x.f8, .int .i64 x.f9, .int .i64 x.f10] := ⟨[.int .i64 x.f0], [.string x.f1, .string x.f2, .string x.f3, .string x.f4, .string x.f5, .string x.f6, v7, .int .i64 x.f8, .int .i64 x.f9, .int .i64 x.f10], rfl, rfl, ⟨[.string x.f1], [.string x.f2, .string x.f3, .string x.f4, .string x.f5, .string x.f6, v7, .int .i64 x.f8, .int .i64 x.f9, .int .i64 x.f10], rfl, rfl, ⟨[.string x.f2], [.string x.f3, .string x.f4, .string x.f5, .string x.f6, v7, .int .i64 x.f8, .int .i64 x.f9, .int .i64 x.f10], rfl, rfl, ⟨[.string x.f3], [.string x.f4, .string x.f5, .string x.f6, v7, .int .i64 x.f8, .int .i64 x.f9, .int .i64 x.f10], rfl, rfl, ⟨[.string x.f4], [.string x.f5, .string x.f6, v7, .int .i64 x.f8, .int .i64 x.f9, .int .i64 x.f10], rfl, rfl, ⟨[.string x.f5], [.string x.f6, v7, .int .i64 x.f8, .int .i64 x.f9, .int .i64 x.f10], rfl, rfl, ⟨[.string x.f6], [v7, .int .i64 x.f8, .int .i64 x.f9, .int .i64 x.f10], rfl, rfl, ⟨[v7], [.int .i64 x.f8, .int .i64 x.f9, .int .i64 x.f10], rfl, ⟨v7, rfl, g7⟩, ⟨[.int .i64 x.f8], [.int .i64 x.f9, .int .i64 x.f10], rfl, rfl, ⟨[.int .i64 x.f9], [.int .i64 x.f10], rfl, rfl, rfl⟩⟩⟩⟩⟩⟩⟩⟩⟩⟩
structure S38 where
  f0 : Int
  f1 : Int
  f2 : S25
  f3 : (List Int)
def z38 : S38 := ⟨(0 : Int), (0 : Int), z25, ([] : List Int)⟩
def k38 : Kd S38 := Kd.iso (Kd.pair (Kd.int .i64) (Kd.pair (Kd.int .i64) (Kd.pair k25 (Kd.slice 3 (Kd.int .i64))))) (fun x : S38 => (x.f0, x.f1, x.f2, x.f3))
theorem k38_open {w : World} {x : S38} {cs : List Value} (h : k38.K w x cs) : ∃ A9 c9 A13 c13, cs = [.int .i64 x.f0, .int .i64 x.f1, .int .i64 x.f2.f0, .string x.f2.f1, .string x.f2.f2, .string x.f2.f3, .string x.f2.f4, .string x.f2.f5, .string x.f2.f6, .slice A9 x.f2.f7.length c9, .int .i64 x.f2.f8, .int .i64 x.f2.f9, .int .i64 x.f2.f10, .slice A13 x.f3.length c13] ∧ x.f2.f7.length ≤ c9 ∧ Kd.string.C w A9 x.f2.f7.length x.f2.f7 ∧ x.f3.length ≤ c13 ∧ (Kd.int .i64).C w A13 x.f3.length x.f3 := by
  obtain ⟨_, _, rfl, rfl, ⟨_, _, rfl, rfl, ⟨_, _, rfl, s2, ⟨A13, c13, rfl, l13, g13⟩⟩⟩⟩ := h
  obtain ⟨A9, c9, rfl, l9, g9⟩ := k25_open s2
  exact ⟨A9, c9, A13, c13, rfl, l9, g9, l13, g13⟩
theorem k38_mkM (w : World) (base : Nat) (ok : Nat → Prop) (x : S38) {v9 : Value} (g9 : Kd.string.R 9 w base ok v9 x.f2.f7) {v13 : Value} (g13 : (Kd.int .i64).R 3 w base ok v13 x.f3) : k38.M w base ok x [.int .i64 x.f0, .int .i64 x.f1, .int .i64 x.f2.f0, .string x.f2.f1, .string x.f2.f2, .string x.f2.f3, .string x.f2.f4, .string x.f2.f5, .string x.f2.f6, v9, .int .i64 x.f2.f8, .int .i64 x.f2.f9, .int .i64 x.f2.f10, v13] := ⟨[.int .i64 x.f0], [.int .i64 x.f1, .int .i64 x.f2.f0, .string x.f2.f1, .string x.f2.f2, .string x.f2.f3, .string x.f2.f4, .string x.f2.f5, .string x.f2.f6, v9, .int .i64 x.f2.f8, .int .i64 x.f2.f9, .int .i64 x.f2.f10, v13], rfl, rfl, ⟨[.int .i64 x.f1], [.int .i64 x.f2.f0, .string x.f2.f1, .string x.f2.f2, .string x.f2.f3, .string x.f2.f4, .string x.f2.f5, .string x.f2.f6, v9, .int .i64 x.f2.f8, .int .i64 x.f2.f9, .int .i64 x.f2.f10, v13], rfl, rfl, ⟨[.int .i64 x.f2.f0, .string x.f2.f1, .string x.f2.f2, .string x.f2.f3, .string x.f2.f4, .string x.f2.f5, .string x.f2.f6, v9, .int .i64 x.f2.f8, .int .i64 x.f2.f9, .int .i64 x.f2.f10], [v13], rfl, (k25_mkM w base ok x.f2 g9), ⟨v13, rfl, g13⟩⟩⟩⟩
def zak (xs : List S38) (i : Int) : S38 := xs.getD i.toNat z38
theorem zjh {w : World} {A : Option Addr} {n : Nat} {xs : List S38} (h : Kd.C k38 w A n xs) (i : Int) (h0 : 0 ≤ i) (h1 : i < n) : ∃ ad A9 c9 A13 c13, A = some ad ∧ w.cell? (ad.add (i.toNat * 14)) = some (.int .i64 (zak xs i).f0) ∧ w.cell? ⟨(ad.add (i.toNat * 14)).block, (ad.add (i.toNat * 14)).off + 1, none⟩ = some (.int .i64 (zak xs i).f1) ∧ w.cell? ⟨(ad.add (i.toNat * 14)).block, (ad.add (i.toNat * 14)).off + 2, none⟩ = some (.int .i64 (zak xs i).f2.f0) ∧ w.cell? ⟨(ad.add (i.toNat * 14)).block, (ad.add (i.toNat * 14)).off + 3, none⟩ = some (.string (zak xs i).f2.f1) ∧ w.cell? ⟨(ad.add (i.toNat * 14)).block, (ad.add (i.toNat * 14)).off + 4, none⟩ = some (.string (zak xs i).f2.f2) ∧ w.cell? ⟨(ad.add (i.toNat * 14)).block, (ad.add (i.toNat * 14)).off + 5, none⟩ = some (.string (zak xs i).f2.f3) ∧ w.cell? ⟨(ad.add (i.toNat * 14)).block, (ad.add (i.toNat * 14)).off + 6, none⟩ = some (.string (zak xs i).f2.f4) ∧ w.cell? ⟨(ad.add (i.toNat * 14)).block, (ad.add (i.toNat * 14)).off + 7, none⟩ = some (.string (zak xs i).f2.f5) ∧ w.cell? ⟨(ad.add (i.toNat * 14)).block, (ad.add (i.toNat * 14)).off + 8, none⟩ = some (.string (zak xs i).f2.f6) ∧ w.cell? ⟨(ad.add (i.toNat * 14)).block, (ad.add (i.toNat * 14)).off + 9, none⟩ = some (.slice A9 (zak xs i).f2.f7.length c9) ∧ w.cell? ⟨(ad.add (i.toNat * 14)).block, (ad.add (i.toNat * 14)).off + 10, none⟩ = some (.int .i64 (zak xs i).f2.f8) ∧ w.cell? ⟨(ad.add (i.toNat * 14)).block, (ad.add (i.toNat * 14)).off + 11, none⟩ = some (.int .i64 (zak xs i).f2.f9) ∧ w.cell? ⟨(ad.add (i.toNat * 14)).block, (ad.add (i.toNat * 14)).off + 12, none⟩ = some (.int .i64 (zak xs i).f2.f10) ∧ w.cell? ⟨(ad.add (i.toNat * 14)).block, (ad.add (i.toNat * 14)).off + 13, none⟩ = some (.slice A13 (zak xs i).f3.length c13) ∧ (zak xs i).f2.f7.length ≤ c9 ∧ Kd.string.C w A9 (zak xs i).f2.f7.length (zak xs i).f2.f7 ∧ (zak xs i).f3.length ≤ c13 ∧ (Kd.int .i64).C w A13 (zak xs i).f3.length (zak xs i).f3 := by
  obtain ⟨ad, c, e, _, hK, hc0⟩ := Kd.C_get h z38 i h0 h1
  have hc : ∀ j u, c[j]? = some u → w.cell? (ad.add (i.toNat * 14 + j)) = some u := hc0
  obtain ⟨A9, c9, A13, c13, rfl, l9, g9, l13, g13⟩ := k38_open hK
  exact ⟨ad, A9, c9, A13, c13, e, hc 0 _ rfl, by rw [← zdm _ _ 1 (by omega)]; exact hc 1 _ rfl, by rw [← zdm _ _ 2 (by omega)]; exact hc 2 _ rfl, by rw [← zdm _ _ 3 (by omega)]; exact hc 3 _ rfl, by rw [← zdm _ _ 4 (by omega)]; exact hc 4 _ rfl, by rw [← zdm _ _ 5 (by omega)]; exact hc 5 _ rfl, by rw [← zdm _ _ 6 (by omega)]; exact hc 6 _ rfl, by rw [← zdm _ _ 7 (by omega)]; exact hc 7 _ rfl, by rw [← zdm _ _ 8 (by omega)]; exact hc 8 _ rfl, by rw [← zdm _ _ 9 (by omega)]; exact hc 9 _ rfl, by rw [← zdm _ _ 10 (by omega)]; exact hc 10 _ rfl, by rw [← zdm _ _ 11 (by omega)]; exact hc 11 _ rfl, by rw [← zdm _ _ 12 (by omega)]; exact hc 12 _ rfl, by rw [← zdm _ _ 13 (by omega)]; exact hc 13 _ rfl, l9, g9, l13, g13⟩
end Go.Proofs.Ytjhcbggpbfejgaa.Mk
