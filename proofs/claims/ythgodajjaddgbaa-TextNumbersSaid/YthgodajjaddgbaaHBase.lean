/- Bytes and texts (layer 2). Plain. -/
import Derived.Test.YthgodajjaddgbaaVx0
import Derived.IntWalk
namespace Go.Proofs.Ythgodajjaddgbaa.V
open Go.RowKit Go.Proofs.YthgodajjaddgbaaW.PrintWords Go.Proofs.YthgodajjaddgbaaW.PrintLast Go.Proofs.YthgodajjaddgbaaW.PrintMore
attribute [local go_sem] max2_int min2_int max_two min_two max_three min_three max_four min_four   -- for this text's walks alone
set_option linter.unusedVariables false
set_option linter.unusedSimpArgs false

-- NEEDS
theorem w64q {x : Int} (h0 : -9223372036854775808 ≤ x) (h1 : x < 9223372036854775808) : wrap64 x = x := by unfold wrap64; omega
def bytesT (s : ByteArray) : List Int := s.data.toList.map fun b => (b.toNat : Int)
theorem strOf_bytesT (s : ByteArray) : strOfNums (bytesT s) = s := by
  apply ByteArray.ext
  simp [strOfNums, bytesT]
  cases s
  simp [Function.comp_def]
theorem bytesT_range (s : ByteArray) : ∀ x ∈ bytesT s, 0 ≤ x ∧ x ≤ 255 := by
  intro x hx
  unfold bytesT at hx
  obtain ⟨b, _, rfl⟩ := List.mem_map.1 hx
  have := b.toNat_lt
  omega
theorem bytesT_len (s : ByteArray) : (bytesT s).length = s.size := by simp [bytesT]
theorem strOf_appT (a b : List Int) : strOfNums a ++ strOfNums b = strOfNums (a ++ b) := by apply ByteArray.ext; simp [strOfNums]
theorem strOf_cutT (l : List Int) (a b : Nat) : (strOfNums l).extract a b = strOfNums ((l.drop a).take (b - a)) := by
  unfold strOfNums
  rw [ByteArray.extract_mk, ← List.map_drop, ← List.map_take]
theorem bt_of (l : List Int) (hr : ∀ x ∈ l, 0 ≤ x ∧ x ≤ 255) (i : Nat) (x : Int) (h : l[i]? = some x) : bt (strOfNums l) (i : Int) = x := by
  have hr2 := hr x (List.mem_of_getElem? h)
  unfold bt
  have hi : i < l.length := (List.getElem?_eq_some_iff.1 h).1
  have hx : l[i] = x := (List.getElem?_eq_some_iff.1 h).2
  have hs : (i : Int).toNat < (strOfNums l).size := by rw [strOfNums_size]; simpa using hi
  rw [dif_pos hs]
  have : ((strOfNums l)[(i : Int).toNat]'hs) = UInt8.ofNat x.toNat := by
    simp [strOfNums, ByteArray.getElem_eq_getElem_data, hx]
  rw [this]; simp; omega
theorem toList_ne (S : ByteArray) (h : 0 < S.size) : S.toList ≠ ([] : List UInt8) := by
  intro e
  rw [ByteArray.toList_eq] at e
  have : S.data.toList.length = S.size := by simp
  rw [e] at this
  simp at this
  omega

end Go.Proofs.Ythgodajjaddgbaa.V
