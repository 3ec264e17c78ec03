/- Words for LayFresh (layer 7): how long the answers are; lists written over with a mark; rows between numbers of blocks. -/
import Derived.Test.YthckejcoekhdjaaQx0
import Derived.Test.YthckejcoekhdjaaQx11
import Derived.Test.YthckejcoekhdjaaQx8
import Derived.Test.YthckejcoekhdjaaHGaps
import Derived.Test.YthckejcoekhdjaaHPlace
import Derived.Test.YthckejcoekhdjaaHLooks
namespace Go.Proofs.Ythckejcoekhdjaa.Q
open Go.RowKit Go.Proofs.YthckejcoekhdjaaW.PrintWords Go.Proofs.YthckejcoekhdjaaW.PrintLast Go.Proofs.YthckejcoekhdjaaW.PrintMore
attribute [local go_sem] max2_int min2_int max_two min_two max_three min_three max_four min_four   -- for this text's walks alone
set_option linter.unusedVariables false
set_option linter.unusedSimpArgs false

theorem placeGo_len : ∀ (l : List S39) (i : Int) (acc : List Int) (e : Int) (r : List Int × Int), placeGo l i acc e = .inl r → r.1.length ≤ acc.length + l.length
  | [], i, acc, e, r, h => by
    rw [placeGo] at h
    obtain rfl := Sum.inl.inj h
    simp
  | x :: xs, i, acc, e, r, h => by
    rw [placeGo] at h
    split at h
    · have := placeGo_len xs _ _ _ r h
      simp only [List.length_append, List.length_cons, List.length_nil] at this ⊢
      omega
    · cases h
theorem place_len (l : List S39) (a : Int) (r : List Int × Int × Int × Int) (h : lay_Place.f l a = some r) : r.1.length ≤ l.length := by
  unfold lay_Place.f at h
  split at h
  case isFalse => cases h
  obtain rfl := Option.some.inj h
  split
  · simp
  · split
    · simp
    · rcases hp : placeGo l 0 [] 0 with ⟨acc, e⟩ | ⟨e, i⟩
      · have := placeGo_len l 0 [] 0 _ hp
        simp only [placeEnd]
        split
        · simpa using this
        · split
          · simp
          · simpa using this
      · simp [placeEnd]
theorem gapPut_le (l : List S39) (e t : Int) : (gapPut l e t).length ≤ l.length + 1 := by
  unfold gapPut
  split <;> simp
theorem gapsF_len : ∀ (l : List S39) (os : List Int) (acc : List S39) (e : Int), (gapsF l os acc e).1.length ≤ acc.length + l.length
  | [], _, acc, e => by simp [gapsF]
  | _ :: _, [], acc, e => by simp [gapsF]
  | x :: xs, o :: os, acc, e => by
    rw [gapsF]
    have := gapPut_le acc e o
    split
    · have := gapsF_len xs os (gapPut acc e o) (o + x.f0)
      simp only [List.length_cons]
      omega
    · have := gapsF_len xs os acc e
      simp only [List.length_cons]
      omega
theorem gaps_len (l : List S39) (os : List Int) (b : Int) (r : List S39 × Int) (h : lay_Gaps.f l os b = some r) : r.1.length ≤ l.length + 1 := by
  unfold lay_Gaps.f at h
  rcases hb : lay_laid.f l os b with _ | t
  · rw [hb] at h; cases h
  · rw [hb, Option.bind_some] at h
    split at h
    · obtain rfl := Option.some.inj h
      have h1 := gapsF_len l os [] 0
      have h2 := gapPut_le (gapsF l os [] 0).1 (gapsF l os [] 0).2 b
      simp only [List.length_nil] at h1
      show (gapPut (gapsF l os [] 0).1 (gapsF l os [] 0).2 b).length ≤ _
      omega
    · obtain rfl := Option.some.inj h
      simp
theorem plain_l0_len : ∀ (k : Nat) (os : List Int) (b : Int) (acc : List S39) (e : Int) (l : List S39) (n i : Int) (r : List S39 × Int × Int), 0 ≤ i → n ≤ 9000000000000 → lay_Plain.l0 k os b acc e l n i = some r → r.1.length ≤ acc.length + (n - i).toNat
  | 0, os, b, acc, e, l, n, i, r, _, _, h => by cases h
  | k + 1, os, b, acc, e, l, n, i, r, hi, hn, h => by
    rw [lay_Plain.l0] at h
    split at h
    · have w1 : i < n → wrap64 (i + 1) = i + 1 := fun h => by unfold wrap64; omega
      repeat' split at h
      all_goals first
        | (cases h; done)
        | (rw [w1 (by assumption)] at h
           have := plain_l0_len k _ _ _ _ _ _ _ r (by omega) hn h
           simp only [List.length_append, List.length_cons, List.length_nil] at this
           omega)
    · split at h <;> (obtain rfl := Option.some.inj h; simp)
theorem plain_len (k : Nat) (l : List S39) (os : List Int) (b : Int) (r : List S39 × Int × Int) (hl : l.length ≤ 9000000000000) (h : lay_Plain.f k l os b = some r) : r.1.length ≤ l.length := by
  unfold lay_Plain.f at h
  rcases hb : lay_laid.f l os b with _ | t
  · rw [hb] at h; cases h
  · rw [hb, Option.bind_some] at h
    split at h
    · have := plain_l0_len k _ _ _ _ _ _ _ r (by omega) (by omega) h
      simpa using this
    · obtain rfl := Option.some.inj h
      simp
theorem rd_rep (x : Int) (n i : Nat) (h : i < n) : rd (List.replicate n x) (i : Int) = x := by
  unfold rd
  rw [Int.toNat_natCast, List.getD_eq_getElem?_getD, List.getElem?_replicate, if_pos h]; rfl
theorem rd_rep39 (x : S39) (n i : Nat) (h : i < n) : rd_T39 (List.replicate n x) (i : Int) = x := by
  unfold rd_T39
  rw [Int.toNat_natCast, List.getD_eq_getElem?_getD, List.getElem?_replicate, if_pos h]; rfl
theorem marked_l0 (m : Int) (n : Nat) (hn : n < 1000000000000000) : ∀ (d i : Nat), i + d = n + 1 → Ev (fun k => stencillaw07_marked.l0 k (List.replicate n m) (List.replicate (n + 1) m) m (i : Int)) true
  | 0, i, h => by
    refine ev_now (g := fun k => stencillaw07_marked.l0 k (List.replicate n m) (List.replicate (n + 1) m) m (i : Int)) fun k => ?_
    rw [stencillaw07_marked.l0, if_neg (by rw [List.length_replicate]; omega)]
  | d + 1, i, h => by
    have c1 : (i : Int) < ((List.replicate (n + 1) m).length : Int) := by rw [List.length_replicate]; omega
    have c2 : 0 ≤ (i : Int) := by omega
    have ih := marked_l0 m n hn d (i + 1) (by omega)
    have w1 : wrap64 ((i : Int) + 1) = ((i + 1 : Nat) : Int) := by unfold wrap64; omega
    have hj : Ev (fun k => stencillaw07_marked.j1 k (List.replicate n m) (List.replicate (n + 1) m) m (i : Int) false) true := by
      refine Ev.step (fun k => ?_) ih
      rw [stencillaw07_marked.j1, if_neg (by simp), w1]
    refine Ev.step (fun k => ?_) hj
    rw [stencillaw07_marked.l0, if_pos c1, if_pos c2, rd_rep m (n + 1) i (by omega), if_pos rfl]
    by_cases c : (i : Int) < ((List.replicate n m).length : Int)
    · rw [if_pos c, rd_rep m n i (by rw [List.length_replicate] at c; omega)]; simp
    · rw [if_neg c]
theorem marked_reps (m : Int) (n : Nat) (hn : n < 1000000000000000) : ∃ k, stencillaw07_marked.f k (List.replicate n m) (List.replicate (n + 1) m) m = some true := by
  obtain ⟨k, hk⟩ := (marked_l0 m n hn (n + 1) 0 (by omega)).rounds
  refine ⟨k, ?_⟩
  have w1 : wrap64 ((n : Int) + 1) = ((n + 1 : Nat) : Int) := by unfold wrap64; omega
  rw [stencillaw07_marked.f, List.length_replicate, List.length_replicate, w1, if_pos rfl]
  exact hk
theorem sized_l0 (m : Int) (n : Nat) (hn : n < 1000000000000000) : ∀ (d i : Nat), i + d = n + 1 → Ev (fun k => stencillaw07_sized.l0 k (List.replicate n (⟨m, 0⟩ : S39)) (List.replicate (n + 1) (⟨m, 0⟩ : S39)) m (i : Int)) true
  | 0, i, h => by
    refine ev_now (g := fun k => stencillaw07_sized.l0 k (List.replicate n (⟨m, 0⟩ : S39)) (List.replicate (n + 1) (⟨m, 0⟩ : S39)) m (i : Int)) fun k => ?_
    rw [stencillaw07_sized.l0, if_neg (by rw [List.length_replicate]; omega)]
  | d + 1, i, h => by
    have c1 : (i : Int) < ((List.replicate (n + 1) (⟨m, 0⟩ : S39)).length : Int) := by rw [List.length_replicate]; omega
    have c2 : 0 ≤ (i : Int) := by omega
    have ih := sized_l0 m n hn d (i + 1) (by omega)
    have w1 : wrap64 ((i : Int) + 1) = ((i + 1 : Nat) : Int) := by unfold wrap64; omega
    have hj : Ev (fun k => stencillaw07_sized.j1 k (List.replicate n (⟨m, 0⟩ : S39)) (List.replicate (n + 1) (⟨m, 0⟩ : S39)) m (i : Int) false) true := by
      refine Ev.step (fun k => ?_) ih
      rw [stencillaw07_sized.j1, if_neg (by simp), w1]
    refine Ev.step (fun k => ?_) hj
    rw [stencillaw07_sized.l0, if_pos c1, if_pos c2, rd_rep39 ⟨m, 0⟩ (n + 1) i (by omega), if_neg (by simp)]
    by_cases c : (i : Int) < ((List.replicate n (⟨m, 0⟩ : S39)).length : Int)
    · rw [if_pos c, rd_rep39 ⟨m, 0⟩ n i (by rw [List.length_replicate] at c; omega)]; simp
    · rw [if_neg c]
theorem sized_reps (m : Int) (n : Nat) (hn : n < 1000000000000000) : ∃ k, stencillaw07_sized.f k (List.replicate n (⟨m, 0⟩ : S39)) (List.replicate (n + 1) (⟨m, 0⟩ : S39)) m = some true := by
  obtain ⟨k, hk⟩ := (sized_l0 m n hn (n + 1) 0 (by omega)).rounds
  refine ⟨k, ?_⟩
  have w1 : wrap64 ((n : Int) + 1) = ((n + 1 : Nat) : Int) := by unfold wrap64; omega
  rw [stencillaw07_sized.f, List.length_replicate, List.length_replicate, w1, if_pos rfl]
  exact hk
/-- A row that a call made: between which numbers its blocks lie. -/
theorem R_iv {α : Type} {d : Kd α} {e : Nat} {W w1 : World} {v : Value} {xs : List α} (ho : d.R e w1 W.heap.size (fun _ => True) v xs) (hb : Below W.heap.size W w1) (b p : Nat) (hb0 : b ≤ W.heap.size) (hp : p ≤ W.heap.size) :
    ∃ lo hi, (p ≤ lo ∧ lo ≤ hi) ∧ hi ≤ w1.heap.size ∧ d.R e w1 b (fun k => lo ≤ k ∧ k < hi) v xs :=
  ⟨W.heap.size, w1.heap.size, ⟨hp, hb.size⟩, Nat.le_refl _, Kd.R_lower (Kd.R_mono (Kd.R_bound ho) (fun k hk => ⟨hk.2.1, hk.2.2.1⟩)) hb0⟩
theorem C_int_same {w w1 : World} {A : Option Addr} {n : Nat} {xs : List Int} (h : Kd.C (Kd.int .i64) w A n xs) (hb : ∀ a, A = some a → w1.heap[a.block]? = w.heap[a.block]?) : Kd.C (Kd.int .i64) w1 A n xs := by
  refine ⟨h.1, h.2.1, fun hp => ?_⟩
  obtain ⟨ad, rfl, hc⟩ := h.2.2 hp
  refine ⟨ad, rfl, fun j p hj => ?_⟩
  obtain ⟨c, h1, h2, h3⟩ := hc j p hj
  refine ⟨c, h1, h2, fun i u hu => ?_⟩
  · rw [← h3 i u hu]
    refine World.cell?_of_block ?_
    rw [add_block]
    exact hb ad rfl
theorem C39_same {w w1 : World} {A : Option Addr} {n : Nat} {xs : List S39} (h : Kd.C k39 w A n xs) (hb : ∀ a, A = some a → w1.heap[a.block]? = w.heap[a.block]?) : Kd.C k39 w1 A n xs := by
  refine ⟨h.1, h.2.1, fun hp => ?_⟩
  obtain ⟨ad, rfl, hc⟩ := h.2.2 hp
  refine ⟨ad, rfl, fun j p hj => ?_⟩
  obtain ⟨c, h1, h2, h3⟩ := hc j p hj
  refine ⟨c, h1, ?_, fun i u hu => ?_⟩
  · obtain rfl := k39_open h2
    exact k39_mk _ _
  · rw [← h3 i u hu]
    refine World.cell?_of_block ?_
    rw [add_block]
    exact hb ad rfl
theorem int_put {W : World} {base : Nat} {ok : Nat → Prop} {A : Option Addr} {c n : Nat} {xs : List Int} (h : Kd.R (Kd.int .i64) 3 W base ok (.slice A n c) xs) (i : Nat) (hi : i < n) :
    ∃ g, A = some ⟨g, 0, none⟩ ∧ base ≤ g ∧ ok g ∧ n = xs.length ∧ (∃ u, W.cell? ⟨g, i, none⟩ = some u) ∧ W.frozen? ⟨g, i, none⟩ = false ∧
      ∀ x : Int, Kd.R (Kd.int .i64) 3 (W.setCell ⟨g, i, none⟩ (.int .i64 x)) base ok (.slice A n c) (xs.set i x) := by
  obtain ⟨hn, hnc, _⟩ := Kd.R_reads' h
  obtain ⟨g, cap, hv, hb, hlt, cells, hcl0⟩ := Kd.R_form h (by omega)
  injection hv with hA _ hcap
  subst hA
  have hc := Kd.R_celln 0 h (i : Int) (by omega) (by omega)
  have P0 := fun x : Int => Kd.R_putn h (i : Int) x
  exact ⟨g, rfl, hb, h.1 g rfl, hn, ⟨_, hc.1⟩, hc.2, P0⟩
theorem room_put {W : World} {base : Nat} {ok : Nat → Prop} {A : Option Addr} {c n : Nat} {xs : List S39} (h : Kd.R k39 39 W base ok (.slice A n c) xs) (i : Nat) (hi : i < n) :
    ∃ g, A = some ⟨g, 0, none⟩ ∧ base ≤ g ∧ ok g ∧ n = xs.length ∧ (∃ u, W.cell? ⟨g, i * 2, none⟩ = some u) ∧ (∃ u, W.cell? ⟨g, i * 2 + 1, none⟩ = some u) ∧ W.frozen? ⟨g, i * 2, none⟩ = false ∧ W.frozen? ⟨g, i * 2 + 1, none⟩ = false ∧
      ∀ x : S39, Kd.R k39 39 ((W.setCell ⟨g, i * 2, none⟩ (.int .i64 x.f0)).setCell ⟨g, i * 2 + 1, none⟩ (.int .i64 x.f1)) base ok (.slice A n c) (xs.set i x) := by
  obtain ⟨hn, hnc, _⟩ := Kd.R_reads' h
  obtain ⟨g, cap, hv, hb, hlt, cells, hcl0⟩ := Kd.R_form h (by omega)
  injection hv with hA _ hcap
  subst hA
  obtain ⟨ce, hcl, hM, hcc, hfr⟩ := Kd.R_elem h (⟨0, 0⟩ : S39) (i : Int) (by omega) (by omega)
  obtain rfl := k39_openM hM
  have P0 := fun x : S39 => Kd.R_seg h (i : Int) (by omega) (by omega) (seg := [.int .i64 x.f0, .int .i64 x.f1]) (j := 0) hcl hcc (show 2 ≤ 2 from by decide) (x' := x) (k39_mkM _ _ _ x) (fun _ hk => hk)
  exact ⟨g, rfl, hb, h.1 g rfl, hn, ⟨_, hcc 0 _ rfl⟩, ⟨_, hcc 1 _ rfl⟩, hfr 0, hfr 1, fun x => (P0 x).1⟩
theorem reps_set {α : Type} (l : List α) (x : α) (k : Nat) (hk : k < l.length) : (List.replicate k x ++ l.drop k).set k x = List.replicate (k + 1) x ++ l.drop (k + 1) := by
  rw [List.set_append]
  simp only [List.length_replicate, Nat.lt_irrefl, if_false, Nat.sub_self]
  rw [List.drop_eq_getElem_cons hk, List.set_cons_zero, List.replicate_succ', List.append_assoc]
  rfl
theorem kept_set_ {w w1 : World} {g : Nat} {S : Nat → Prop} (h : Kept w w1 S) (hg : S g) (j : Nat) (v : Value) : Kept w (w1.setCell ⟨g, j, none⟩ v) S :=
  ⟨by simpa using h.1, fun i hi hne => (Below.heap_setCell w1 ⟨g, j, none⟩ v i (fun e => hne (by rw [e]; exact hg))).trans (h.2 i hi hne)⟩
theorem R_kept_iv {α : Type} {d : Kd α} {e base : Nat} {w w1 : World} {v : Value} {xs : List α} {lo hi lo' hi' : Nat} (h : d.R e w base (fun k => lo ≤ k ∧ k < hi) v xs) (hk : Kept w w1 (fun k => lo' ≤ k ∧ k < hi')) (hd : hi ≤ lo' ∨ hi' ≤ lo) : d.R e w1 base (fun k => lo ≤ k ∧ k < hi) v xs :=
  Kd.R_step h fun k ho hlt => hk.2 k hlt (by omega)

end Go.Proofs.Ythckejcoekhdjaa.Q
