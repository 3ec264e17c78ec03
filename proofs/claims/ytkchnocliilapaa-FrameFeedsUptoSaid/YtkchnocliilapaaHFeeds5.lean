/- FrameFeeds: what bears its mark, bears it; a row beside itself is the same. -/
import Derived.Test.YtkchnocliilapaaQx0
import Derived.Test.YtkchnocliilapaaQx2
import Derived.Test.YtkchnocliilapaaQx3
import Derived.Test.YtkchnocliilapaaHFeeds4
import Derived.IntWalk
namespace Go.Proofs.Ytkchnocliilapaa.Q
open Go.RowKit Go.Proofs.YtkchnocliilapaaW.PrintWords Go.Proofs.YtkchnocliilapaaW.PrintLast Go.Proofs.YtkchnocliilapaaW.PrintMore
attribute [local go_sem] max2_int min2_int max_two min_two max_three min_three max_four min_four   -- for this text's walks alone
set_option linter.unusedVariables false
set_option linter.unusedSimpArgs false

theorem same_refl (l : List S23) (hl : l.length ≤ 9223372036854775807) : ∀ (d i : Nat), i + d = l.length → stencillaw24_same.l0 (d + 1) l l (i : Int) = some true
  | 0, i, h => by rw [stencillaw24_same.l0, if_neg (by omega)]
  | d + 1, i, h => by
    have c1 : (i : Int) < (l.length : Int) := by omega
    have c2 : 0 ≤ (i : Int) := by omega
    have ih := same_refl l hl d (i + 1) (by omega)
    have w1 : wrap64 ((i : Int) + 1) = ((i + 1 : Nat) : Int) := w64_id (by omega) (by omega)
    rw [stencillaw24_same.l0, if_pos c1, if_pos c2, if_pos c1, if_neg (by simp), w1]
    exact ih
theorem same_self (l : List S23) (hl : l.length ≤ 9223372036854775807) : stencillaw24_same.f (l.length + 1) l l = some true := by
  unfold stencillaw24_same.f
  rw [if_pos rfl]
  exact same_refl l hl l.length 0 (by omega)
theorem rd_marks (x : S23) (n : Nat) (i : Nat) (h : i < n) : rd_T23 (List.replicate n x) (i : Int) = x := by
  unfold rd_T23
  rw [Int.toNat_natCast, List.getD_eq_getElem?_getD, List.getElem?_replicate, if_pos h]; rfl
theorem holds_l1 (m : Int) (n : Nat) (hm0 : 0 ≤ m) (hm1 : m < 1000000000000) (hn : n < 1000000000000) : ∀ (d i : Nat), i + d = n + 1 → Ev (fun k => stencillaw24_kept_holds.l1 k (i : Int) (List.replicate n (mkP m)) (List.replicate (n + 1) (mkP m)) m) true
  | 0, i, h => by
    have w1 : wrap64 ((n : Int) + 1) = (n : Int) + 1 := w64_id (by omega) (by omega)
    refine ev_now (g := fun k => stencillaw24_kept_holds.l1 k (i : Int) (List.replicate n (mkP m)) (List.replicate (n + 1) (mkP m)) m) fun k => ?_
    rw [stencillaw24_kept_holds.l1, if_neg (by rw [List.length_replicate]; omega), List.length_replicate, List.length_replicate, w1]
    simp
  | d + 1, i, h => by
    have c1 : (i : Int) < ((List.replicate (n + 1) (mkP m)).length : Int) := by rw [List.length_replicate]; omega
    have c2 : 0 ≤ (i : Int) := by omega
    have c3 : i < n + 1 := by omega
    have ih := holds_l1 m n hm0 hm1 hn d (i + 1) (by omega)
    have w1 : wrap64 ((i : Int) + 1) = ((i + 1 : Nat) : Int) := w64_id (by omega) (by omega)
    have w2 : wrap64 (-m) = -m := w64_id (by omega) (by omega)
    have w3 : wrap64 (-m - 1) = -m - 1 := w64_id (by omega) (by omega)
    refine Ev.step (fun k => ?_) ih
    rw [stencillaw24_kept_holds.l1, if_pos c1, if_pos c2, rd_marks _ _ _ c3, w2, w3, if_pos (show (mkP m).f0 = -m - 1 from rfl), w1]
theorem holds_l0 (m : Int) (n : Nat) (hm0 : 0 ≤ m) (hm1 : m < 1000000000000) (hn : n < 1000000000000) : ∀ (d i : Nat), i + d = n → Ev (fun k => stencillaw24_kept_holds.l0 k (i : Int) (List.replicate n (mkP m)) (List.replicate (n + 1) (mkP m)) m) true
  | 0, i, h => by
    refine Ev.step (fun k => ?_) (holds_l1 m n hm0 hm1 hn (n + 1) 0 (by omega))
    rw [stencillaw24_kept_holds.l0, if_neg (by rw [List.length_replicate]; omega)]
    rfl
  | d + 1, i, h => by
    have c1 : (i : Int) < ((List.replicate n (mkP m)).length : Int) := by rw [List.length_replicate]; omega
    have c2 : 0 ≤ (i : Int) := by omega
    have c3 : i < n := by omega
    have ih := holds_l0 m n hm0 hm1 hn d (i + 1) (by omega)
    have w1 : wrap64 ((i : Int) + 1) = ((i + 1 : Nat) : Int) := w64_id (by omega) (by omega)
    have w2 : wrap64 (-m) = -m := w64_id (by omega) (by omega)
    have w3 : wrap64 (-m - 1) = -m - 1 := w64_id (by omega) (by omega)
    refine Ev.step (fun k => ?_) ih
    rw [stencillaw24_kept_holds.l0, if_pos c1, if_pos c2, rd_marks _ _ _ c3, w2, w3, if_pos (show (mkP m).f0 = -m - 1 from rfl), w1]
theorem holds_marks (m : Int) (n : Nat) (hm0 : 0 ≤ m) (hm1 : m < 1000000000000) (hn : n < 1000000000000) : ∃ k, stencillaw24_kept_holds.f k (List.replicate n (mkP m)) (List.replicate (n + 1) (mkP m)) m = some true :=
  (holds_l0 m n hm0 hm1 hn n 0 (by omega)).rounds
theorem at_kB {w : World} {A : Option Addr} {n : Nat} {xs : List (Nat × Int)} (h : Kd.C kB w A n xs) (i : Int) (h0 : 0 ≤ i) (h1 : i < n) : ∃ ad A1 A2 c1 c2, A = some ad ∧ w.cell? (ad.add (i.toNat * 3)) = some (.slice A1 (xs.getD i.toNat (0, 0)).1 c1) ∧ w.cell? ⟨(ad.add (i.toNat * 3)).block, (ad.add (i.toNat * 3)).off + 1, none⟩ = some (.slice A2 ((xs.getD i.toNat (0, 0)).1 + 1) c2) ∧ w.cell? ⟨(ad.add (i.toNat * 3)).block, (ad.add (i.toNat * 3)).off + 2, none⟩ = some (.int .i64 (xs.getD i.toNat (0, 0)).2) ∧ ∃ cs, bookK w (xs.getD i.toNat (0, 0)) cs A1 A2 c1 c2 := by
  obtain ⟨ad, c, e, _, hK, hc0⟩ := Kd.C_get h ((0, 0) : Nat × Int) i h0 h1
  have hc : ∀ j u, c[j]? = some u → w.cell? (ad.add (i.toNat * 3 + j)) = some u := hc0
  obtain ⟨A1, A2, c1, c2, hb⟩ := hK
  obtain rfl := hb.1
  exact ⟨ad, A1, A2, c1, c2, e, hc 0 _ rfl, by rw [← add_field _ _ 1 (by omega)]; exact hc 1 _ rfl, by rw [← add_field _ _ 2 (by omega)]; exact hc 2 _ rfl, _, hb⟩
theorem holds_entry (w W : World) (x : Nat × Int) (A1 A2 : Option Addr) (c1 c2 : Nat) (cs : List Value) (hn : x.1 < 1000000000000) (h0 : 0 ≤ x.2) (h1 : x.2 < 1000000000000) (hb : bookK w x cs A1 A2 c1 c2) (hw : Below w.heap.size w W) :
    Calls Try.prog 12 #[.agg #[.slice A1 x.1 c1, .slice A2 (x.1 + 1) c2, .int .i64 x.2]] W fun e w' => e = .returned (.bool true) ∧ Below W.heap.size W w' := by
  obtain ⟨kh, hk⟩ := holds_marks x.2 x.1 h0 h1 hn
  have := stencillaw24_kept_holds.calls kh A1 c1 (List.replicate x.1 (mkP x.2)) A2 c2 (List.replicate (x.1 + 1) (mkP x.2)) x.2 true W (by rw [List.length_replicate]; exact Kd.C_below hb.2.2.2.1 hw) (by rw [List.length_replicate]; exact hb.2.1) (by rw [List.length_replicate]; exact Kd.C_below hb.2.2.2.2 hw) (by rw [List.length_replicate]; exact hb.2.2.1) hk
  rw [List.length_replicate, List.length_replicate] at this
  exact this
theorem getD_mem {α : Type} {xs : List α} {z : α} {i : Int} (h0 : 0 ≤ i) (h1 : i < (xs.length : Int)) : xs.getD i.toNat z ∈ xs := by
  rw [List.getD_eq_getElem?_getD, List.getElem?_eq_getElem (show i.toNat < xs.length by omega)]
  exact List.getElem_mem _

end Go.Proofs.Ytkchnocliilapaa.Q
