/- Conditions on tags: plain laws over lists of bytes. -/
import Derived.Test.YtipfekjmcddelaaGreatDoorTp
import Derived.Lib.SplitLaws
namespace Go.Proofs.YtipfekjmcddelaaGreatDoor
open Go.Lib
def blank : List UInt8 := [32, 9]
end Go.Proofs.YtipfekjmcddelaaGreatDoor
namespace Go.Proofs.YtipfekjmcddelaaGreatDoor
open Go.Lib
theorem blank_yes {c : UInt8} : blank.contains c = true ↔ c = 32 ∨ c = 9 := by
  simp [blank]
theorem zfc {c : UInt8} (h : blank.contains c = true) (l : List UInt8) : trimS (c :: l) blank = trimS l blank := by
  unfold trimS trimRightS trimLeftS
  rw [List.reverse_cons, List.dropWhile_append]
  split
  · rename_i he
    have : (l.reverse.dropWhile (blank.contains ·)) = [] := List.isEmpty_iff.1 he
    rw [this]
    rw [List.dropWhile_cons, if_pos h]
    rfl
  · rw [List.reverse_append]
    simp only [List.reverse_cons, List.reverse_nil, List.nil_append, List.singleton_append]
    rw [List.dropWhile_cons, if_pos h]
theorem trim_snoc {c : UInt8} (h : blank.contains c = true) (l : List UInt8) : trimS (l ++ [c]) blank = trimS l blank := by
  unfold trimS trimRightS
  rw [List.reverse_append]
  simp only [List.reverse_cons, List.reverse_nil, List.nil_append, List.singleton_append]
  rw [List.dropWhile_cons, if_pos h]
theorem dropW_id {p : UInt8 → Bool} {l : List UInt8} (h : ∀ c, l.head? = some c → p c = false) : l.dropWhile p = l := by
  cases l with
  | nil => rfl
  | cons c l => rw [List.dropWhile_cons, if_neg (by rw [h c rfl]; simp)]
theorem trim_id {l : List UInt8} (h1 : ∀ c, l.head? = some c → blank.contains c = false) (h2 : ∀ c, l.getLast? = some c → blank.contains c = false) : trimS l blank = l := by
  unfold trimS trimRightS trimLeftS
  rw [dropW_id (l := l.reverse) (fun c hc => h2 c (by rw [← hc, List.head?_reverse])), List.reverse_reverse, dropW_id h1]
theorem zet (s : ByteArray) (i j : Nat) : s.extract i j = ⟨((s.data.toList.drop i).take (j - i)).toArray⟩ := by
  rw [← Lib.mk_data (s.extract i j)]
  congr 2
  simp
end Go.Proofs.YtipfekjmcddelaaGreatDoor
namespace Go.Proofs.YtipfekjmcddelaaGreatDoor
open Go.Lib
end Go.Proofs.YtipfekjmcddelaaGreatDoor
namespace Go.Proofs.YtipfekjmcddelaaGreatDoor
open Go.Lib
end Go.Proofs.YtipfekjmcddelaaGreatDoor
