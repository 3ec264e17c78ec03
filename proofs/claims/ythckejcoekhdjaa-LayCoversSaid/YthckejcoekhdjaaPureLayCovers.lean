/- LayCovers, the pure statement: each place of a block laid out of seeds is in just one room, by At, or in just one gap. -/
import Derived.Test.YthckejcoekhdjaaQDLayCovers
import Derived.Test.YthckejcoekhdjaaHCovers
namespace Go.Proofs.Ythckejcoekhdjaa.Q
open Go.RowKit Go.Proofs.YthckejcoekhdjaaW.PrintWords Go.Proofs.YthckejcoekhdjaaW.PrintLast Go.Proofs.YthckejcoekhdjaaW.PrintMore

theorem fixed_true : stencillaw07_fixed.f = some true := by decide +kernel

theorem inG_snoc (G : List S39) (g : S39) (p : Int) : inG (G ++ [g]) p = (inG G p || decide (g.f1 ≤ p ∧ p < g.f1 + g.f0)) := by
  simp [inG, List.any_append]

/-- The second part: place by place. -/
theorem covers_places (l : List S39) (os : List Int) (e b : Int) (fr : List Bool) (hc : Chain l os 0 e) (hl : l.length ≤ 60) (he : e ≤ b) (hb : b ≤ 7000) (hfl : (fr.length : Int) = b) (hfr : ∀ p : Nat, (p : Int) < b → fr.getD p false = !cov l os p) :
    ∀ (d p : Nat), (p : Int) + d = b → ∀ k, 2 * d + 200 ≤ k → stencillaw07_LayCovers.l2 k l os b fr p = some true := by
  obtain ⟨hlo, he0, he1⟩ := hc.len
  have hat := fun p hp => at_some l os p hlo (by omega) (hc.bounds (by omega) (by omega)) hp
  intro d
  induction d with
  | zero =>
    intro p hp k hk
    obtain ⟨k, rfl⟩ : ∃ m, k = m + 1 := ⟨k - 1, by omega⟩
    have no : ∀ q : Int, q ≤ 1000000 → (q < 0 ∨ e ≤ q) → lay_At.f k l os q = some (-1) := by
      intro q hq hq2
      rw [hat q hq k (by omega)]
      have hcv : cov l os q = false := by
        rcases hq2 with hq2 | hq2
        · exact hc.cov_below hq2
        · exact hc.cov_above hq2
      rcases atF_some l os 0 q (by omega) hlo with ⟨a, _⟩ | ⟨j, _, _, z, _⟩
      · rw [a]
      · rw [hcv] at z; cases z
    simp only [stencillaw07_LayCovers.l2]
    have w : wrap64 (b + 1000) = b + 1000 := by unfold wrap64; omega
    rw [if_neg (by omega), no (-1) (by omega) (.inl (by omega))]
    simp only [Option.bind_some, if_true]
    rw [no b (by omega) (.inr he)]
    simp only [Option.bind_some, if_true]
    rw [w, no (b + 1000) (by omega) (.inr (by omega))]
    rfl
  | succ d ih =>
    intro p hp k hk
    obtain ⟨k, rfl⟩ : ∃ m, k = m + 2 := ⟨k - 2, by omega⟩
    have next := ih (p + 1) (by omega) k (by omega)
    have w1 : wrap64 ((p : Int) + 1) = ((p + 1 : Nat) : Int) := by unfold wrap64; omega
    have r1 : rdOf false fr (p : Int) = !cov l os p := by rw [← hfr p (by omega)]; simp [rdOf]
    simp only [stencillaw07_LayCovers.l2]
    rw [if_pos (by omega), hat (p : Int) (by omega) (k + 1) (by omega)]
    simp only [Option.bind_some]
    rw [if_pos (by omega), if_pos (by omega), r1]
    rcases atF_some l os 0 (p : Int) (by omega) hlo with ⟨a, c⟩ | ⟨j, hj, a, c, d1, d2⟩
    · rw [a, c, if_neg (by simp), if_pos rfl]
      simp only [stencillaw07_LayCovers.j4]
      rw [if_neg (by simp), w1]
      exact next
    · rw [Int.zero_add] at a
      have hne : ((j : Int) == -1) = false := by rw [beq_eq_false_iff_ne]; omega
      obtain ⟨b0, b1, b2⟩ := hc.bounds (by omega) (by omega) j hj
      have r2 : rd os (j : Int) = os.getD j 0 := by simp [rd]
      have r3 : rd_T39 l (j : Int) = l.getD j z39 := by simp [rd_T39]
      have w2 : wrap64 (os.getD j 0 + (l.getD j z39).f0) = os.getD j 0 + (l.getD j z39).f0 := by unfold wrap64; omega
      rw [a, c, hne, if_neg (by simp), if_neg (by omega), if_neg (by omega), if_neg (by omega), if_pos (by omega), if_pos (by omega), r2, if_neg (by omega), if_pos (by omega), r3, w2, decide_eq_false (by omega)]
      simp only [stencillaw07_LayCovers.j4]
      rw [if_neg (by simp), w1]
      exact next

/-- The first part: gap by gap. -/
theorem covers_gaps (l : List S39) (os : List Int) (b : Int) (hb0 : 0 ≤ b) (hb : b ≤ 7000) (G : List S39) (hlast : ∀ fr : List Bool, (fr.length : Int) = b → (∀ p : Nat, (p : Int) < b → fr.getD p false = inG G p) → Ev (fun k => stencillaw07_LayCovers.l2 k l os b fr 0) true) :
    ∀ (rest pre : List S39) (fr : List Bool) (last : Int), G = pre ++ rest → -1 ≤ last → last ≤ b → GapOk rest last b → (fr.length : Int) = b → (∀ p : Nat, (p : Int) < b → fr.getD p false = inG pre p) → pre.length ≤ 100 → rest.length + pre.length ≤ 100 →
    Ev (fun k => stencillaw07_LayCovers.l0 k l os b G fr last (pre.length : Int)) true := by
  intro rest
  induction rest with
  | nil =>
    intro pre fr last hG _ _ _ hfl hfr _ _
    rw [List.append_nil] at hG
    subst hG
    refine Ev.step (f := fun k => stencillaw07_LayCovers.l2 k l os b fr 0) (fun k => ?_) (hlast fr hfl hfr)
    simp only [stencillaw07_LayCovers.l0]
    rw [if_neg (by omega)]
  | cons g rest ihr =>
    intro pre fr last hG hl0 hl1 hok hfl hfr hp1 hp2
    obtain ⟨o1, o2, o3, o4⟩ := hok
    have hp3 : rest.length + 1 + pre.length ≤ 100 := by simpa using hp2
    clear hp2
    have hlen : G.length = pre.length + rest.length + 1 := by rw [hG]; simp; omega
    have hrg : rd_T39 G (pre.length : Int) = g := by rw [hG]; simp [rd_T39]
    have hlen2 : (pre.length : Int) < (G.length : Int) := by omega
    -- the marks of one gap
    have marks : ∀ (d j : Nat) (fr : List Bool), (j : Int) + d = g.f0 → (fr.length : Int) = b → (∀ p : Nat, (p : Int) < b → fr.getD p false = (inG pre p || decide (g.f1 ≤ (p : Int) ∧ (p : Int) < g.f1 + j))) →
        Ev (fun k => stencillaw07_LayCovers.l1 k l os b G fr (pre.length : Int) (j : Int)) true := by
      intro d
      induction d with
      | zero =>
        intro j fr hj hfl hfr
        have q0 : 0 ≤ (pre.length : Int) := Int.natCast_nonneg _
        have q1 : ¬ (j : Int) < g.f0 := by omega
        have q2 : -1 ≤ g.f1 + g.f0 := by omega
        have q3 : (pre ++ [g]).length ≤ 100 := by simp only [List.length_append, List.length_singleton]; omega
        have q4 : rest.length + (pre ++ [g]).length ≤ 100 := by simp only [List.length_append, List.length_singleton]; omega
        have q5 : g.f0 = (j : Int) := by omega
        have w1 : wrap64 (g.f1 + g.f0) = g.f1 + g.f0 := by unfold wrap64; omega
        have w2 : wrap64 ((pre.length : Int) + 1) = (((pre ++ [g]).length : Nat) : Int) := by simp only [List.length_append, List.length_singleton]; unfold wrap64; omega
        refine Ev.step (f := fun k => stencillaw07_LayCovers.l0 k l os b G fr (g.f1 + g.f0) (((pre ++ [g]).length : Nat) : Int)) (fun k => ?_) ?_
        · simp only [stencillaw07_LayCovers.l1]
          rw [if_pos q0, if_pos hlen2, hrg, if_neg q1, w1, w2]
        · clear w1 w2
          refine ihr (pre ++ [g]) fr (g.f1 + g.f0) (by rw [hG]; simp) q2 o3 o4 hfl (fun p hp => ?_) q3 q4
          rw [hfr p hp, inG_snoc, q5]
      | succ d ih =>
        intro j fr hj hfl hfr
        have q0 : 0 ≤ (pre.length : Int) := Int.natCast_nonneg _
        have q1 : (j : Int) < g.f0 := by omega
        have q2 : 0 ≤ g.f1 + (j : Int) := by omega
        have q3 : g.f1 + (j : Int) < (fr.length : Int) := by omega
        have q4 : ((j + 1 : Nat) : Int) + d = g.f0 := by omega
        have w1 : wrap64 (g.f1 + (j : Int)) = g.f1 + j := by unfold wrap64; omega
        have w2 : wrap64 ((j : Int) + 1) = ((j + 1 : Nat) : Int) := by unfold wrap64; omega
        refine Ev.step (f := fun k => stencillaw07_LayCovers.l1 k l os b G (fr.set (g.f1 + (j : Int)).toNat true) (pre.length : Int) ((j + 1 : Nat) : Int)) (fun k => ?_) ?_
        · simp only [stencillaw07_LayCovers.l1]
          rw [if_pos q0, if_pos hlen2, hrg, if_pos q1, w1, if_pos q2, if_pos q3, w2]
        · clear w1 w2
          refine ih (j + 1) _ q4 (by simpa using hfl) (fun p hp => ?_)
          have hpl : p < fr.length := by omega
          have h1 := hfr p hp
          simp only [List.getD_eq_getElem?_getD, List.getElem?_set] at h1 ⊢
          by_cases c : (g.f1 + (j : Int)).toNat = p
          · rw [if_pos c, if_pos (by omega), decide_eq_true (by omega)]
            simp
          · rw [if_neg c, h1]
            congr 1
            rw [decide_eq_decide]
            omega
    refine Ev.step (f := fun k => stencillaw07_LayCovers.j1 k l os b G fr (pre.length : Int) false) (fun k => ?_) ?_
    · have q0 : 0 ≤ (pre.length : Int) := Int.natCast_nonneg _
      have q1 : ¬ g.f0 < 1 := by omega
      have q2 : ¬ g.f1 ≤ last := by omega
      have q3 : ¬ g.f0 > b := by omega
      have q4 : ¬ g.f1 > b - g.f0 := by omega
      have w1 : wrap64 (b - g.f0) = b - g.f0 := by unfold wrap64; omega
      simp only [stencillaw07_LayCovers.l0]
      rw [if_pos hlen2, if_pos q0, hrg, if_neg q1, if_neg q2, if_neg q3, w1, decide_eq_false q4]
    · refine Ev.step (f := fun k => stencillaw07_LayCovers.l1 k l os b G fr (pre.length : Int) 0) (fun k => ?_) ?_
      · simp only [stencillaw07_LayCovers.j1]
        rw [if_neg (by simp)]
      · refine marks g.f0.toNat 0 fr (by omega) hfl (fun p hp => ?_)
        rw [hfr p hp, decide_eq_false (by omega)]
        simp

theorem gapList_length (b : Int) : ∀ (l : List S39) (os : List Int) (e : Int), (GapList l os e b).length ≤ l.length + 1
  | [], [], e => by simp only [GapList]; split <;> simp
  | x :: l, o :: os, e => by
    have h1 := gapList_length b l os (o + x.f0)
    have h2 := gapList_length b l os e
    simp only [GapList, List.length_cons]
    split
    · split
      · simp only [List.length_cons]; omega
      · omega
    · omega
  | [], _ :: _, e => by simp only [GapList]; split <;> simp
  | _ :: _, [], e => by simp only [GapList]; split <;> simp

theorem LayCovers : stencillaw07_LayCovers.Pure := by
  intro l0 a1 _ _
  obtain ⟨l, os, e, hm, hc, hl⟩ := made_some l0
  obtain ⟨hlo, he0, he1⟩ := hc.len
  obtain ⟨t, ht, ht0, ht1⟩ := mod_some a1 100 (by omega) (by omega)
  have hg : lay_Gaps.f l os (e + t) = some (GapList l os 0 (e + t), 0) := by
    have hld : lay_laid.f l os (e + t) = some true := by
      unfold lay_laid.f
      rw [if_pos (by omega), hc.laid (by omega) (by omega)]
      simp [hlo]
      omega
    unfold lay_Gaps.f
    rw [hld]
    simp only [Option.bind_some, if_true]
    rw [gapList_eq (e + t) l os [] 0 hlo]
    rfl
  have z1 : 0 ≤ e + t := by omega
  have z2 : (e + t).toNat ≤ 281474976710656 := by omega
  have z3 : l.length < 8796093022207 := by omega
  have z4 : os.length < 17592186044415 := by omega
  have w : wrap64 (e + t) = e + t := by unfold wrap64; omega
  refine Ev.rounds ?_
  unfold stencillaw07_LayCovers.f
  rw [fixed_true]
  simp only [Option.bind_some, if_true]
  refine Ev.bind hm ?_
  simp only [ht, Option.bind_some, rooms_some l z3, ints_some os z4, w, hg, num_some, if_true]
  simp only [z1, z2, if_true]
  clear w
  have hlen := gapList_length (e + t) l os 0
  refine covers_gaps l os (e + t) (by omega) (by omega) (GapList l os 0 (e + t)) (fun fr hfl hfr => ?_) (GapList l os 0 (e + t)) [] _ (-1) rfl (by omega) (by omega) (hc.gapOk 0 (-1) (by omega) (by omega) (by omega)) (by simp; omega) (fun p hp => ?_) (by simp) (by simp; omega)
  · refine ⟨2 * (e + t).toNat + 200, fun k hk => covers_places l os e (e + t) fr hc hl (by omega) (by omega) hfl (fun p hp => ?_) (e + t).toNat 0 (by omega) k hk⟩
    rw [hfr p hp, hc.inG_cov hp 0 (by omega) (by omega) (by omega)]
  · simp [inG, hp]
end Go.Proofs.Ythckejcoekhdjaa.Q
