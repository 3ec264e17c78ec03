/- append onto a row of the call's own: what the elder slice reads stays, wherever the longer one comes to lie. -/
import Derived.Test.YtkchnocliilapaaQx0
import Derived.Maps.AppendAt
import Derived.Deep.AppendLies
namespace Go.Proofs.Ytkchnocliilapaa.Q
open Go.RowKit Go.Proofs.YtkchnocliilapaaW.PrintWords Go.Proofs.YtkchnocliilapaaW.PrintLast Go.Proofs.YtkchnocliilapaaW.PrintMore
attribute [local go_sem] max2_int min2_int max_two min_two max_three min_three max_four min_four   -- for this text's walks alone
set_option linter.unusedVariables false
set_option linter.unusedSimpArgs false

-- NEEDS

section
variable {P : Program} (w : World)
/-- The longer row lies in the elder one's block, or no elder block has changed. -/
theorem append_keeps (base : Nat) (t ty e : TypeId) (i : TypeInfo) (z : Value) (size bytes : Nat) (ht : P.underlying t = some (.slice e)) (hi : P.info? e = some i) (hz : i.zero = some z)
    (hsize : i.size = size) (hby : i.bytes = bytes) (v : Value) (n : Nat) (xs : List Value) (hown : w.ownsRow base e size v n xs)
    (ad : Addr) (m c : Nat) (news : List Value) (hl : news.length = m * size) (hnews : ∀ j u, news[j]? = some u → w.cell? (ad.add j) = some u) (h1 : ∀ u ∈ news, u.oneCell' = true)
    (h63 : n + m ≤ 9223372036854775807) (hbytes : (n + m) * bytes ≤ 140737488355328) {v' : Value} {w' : World} (hr : (Builtin.append_ #[t, t] ty #[v, .slice (some ad) m c]).run P w = .ok v' w') :
    v'.ownBlock = v.ownBlock ∨ ∀ k, k < w.heap.size → w'.heap[k]? = w.heap[k]? := by
  subst hsize
  subst hby
  rcases hown.2 with ⟨rfl, rfl⟩ | ⟨g, cap, cur, rfl, hbg, hg, hnc, hcm, hcs, htake⟩
  · by_cases hm : m = 0
    · subst hm
      obtain rfl : news = [] := List.eq_nil_of_length_eq_zero (by simpa using hl)
      have : (Builtin.append_ #[t, t] ty #[.slice none 0 0, .slice (some ad) 0 c]).run P w = .ok (.slice none 0 0) w := by
        simp [Builtin.append_, run_underlying ht, sizeOf, typeInfo, hi, Builtin.lenOf, Builtin.firstCells, loadCells, loadCellsFrom]
      rw [this] at hr
      injection hr with hv hw
      subst hw
      exact .inr fun _ _ => rfl
    · have hrn := run_append_nil (P := P) w t ty e i z ht hi hz ad m c news hl hnews (by omega) (by omega) (by have hb := hbytes; simp only [Nat.zero_add] at hb; omega)
      rw [hrn] at hr
      injection hr with hv hw
      subst hw
      exact .inr fun k hk => Below.heap_alloc w.drew _ k hk
  · by_cases hroom : n + m ≤ cap
    · have hfit : n * i.size + news.length ≤ cur.size := by rw [hl, hcs, ← Nat.add_mul]; exact Nat.mul_le_mul_right _ hroom
      have hrr := run_append_room (P := P) w t ty e i ht hi g n cap cur hg ad m c news hl hnews h1 hroom hfit
      rw [hrr] at hr
      injection hr with hv hw
      subst hv
      exact .inl rfl
    · have hrg := run_append_grow (P := P) w t ty e i z ht hi hz ⟨g, 0, none⟩ n cap xs hown.1 (hown.cells (g := g) rfl) ad m c news hl hnews (by omega) (by omega) (growslice_fits (by omega) hbytes)
      rw [hrg] at hr
      injection hr with hv hw
      subst hw
      exact .inr fun k hk => Below.heap_alloc w.drew _ k hk
end
section
variable {P : Program} {ops : Array Oper} {rest : List Oper} {o : Oper} {a : Act} {Q : Exit → Act → World → Prop} {α : Type}
/-- As Kd.R_append; and what the elder slice reads, it reads on. -/
theorem R_append_keep (d : Kd α) {w0 W : World} (base : Nat) (hgd : o.guard = none) (s x : Operand) (t e : TypeId) (z : Value) (bytes : Nat)
    (ho : o.op = .call { callee := .builtin .append, args := #[s, x], argTypes := #[t, t] })
    (ht : P.underlying t = some (.slice e)) (hinfo : (P.info? e).map (fun i => (i.zero, i.size, i.bytes)) = some (some z, d.sz, bytes)) (hz : z.cells.size = d.sz) (hs0 : 0 < d.sz) (hb0 : 0 < bytes)
    (v : Value) (xs : List α) (p : α) (cs : List Value) (ok okp : Nat → Prop) (hs : a.eval s = v) (hx : a.eval x = .slice (some ⟨W.heap.size, 0, none⟩) 1 1) (hp : d.M W base okp p cs) (hokp : ∀ k, okp k → ok k ∧ some k ≠ v.ownBlock) (hfresh : ∀ k, W.heap.size ≤ k → ok k)
    (HO : d.R e W base ok v xs) (HB : Below base w0 W) (hbase : base ≤ W.heap.size) (hl : (xs.length + 1) * bytes ≤ 140737488355328)
    (h : ∀ v1 w1, d.R e w1 base ok v1 (xs ++ [p]) → Below base w0 w1 → W.grownBy w1 v.ownBlock → (v1.ownBlock = v.ownBlock ∨ ∃ b, v1.ownBlock = some b ∧ W.heap.size ≤ b) → (∀ A n c, v = .slice A n c → d.C w1 A xs.length xs) → wpList P ops Q rest (a.put o.dst v1) w1) :
    wpList P ops Q (o :: rest) a (W.alloc (.cells cs.toArray e)) := by
  obtain ⟨i0, hi, hzz⟩ := Option.map_eq_some_iff.1 hinfo
  simp only [Prod.mk.injEq] at hzz
  obtain ⟨hz0, hz1, hz2⟩ := hzz
  have hlen : xs.length + 1 ≤ 140737488355328 := Nat.le_trans (Nat.le_mul_of_pos_right _ hb0) hl
  have HO' := HO
  obtain ⟨h0, inner, hown, hr⟩ := HO
  have hys : cs.length = 1 * d.sz := by rw [d.K_len (d.K_of_M hp)]; simp
  have hnews : ∀ j u, cs[j]? = some u → (W.alloc (.cells cs.toArray e)).cell? ((⟨W.heap.size, 0, none⟩ : Addr).add j) = some u := by
    simpa using World.news_of_block (cs := cs.toArray) (t := e) (fr := (0, 0)) (heap_alloc_new W (.cells cs.toArray e))
  have h1 := d.K_one (d.K_of_M hp)
  refine wpList_plain hgd fun K hK => ?_
  obtain ⟨v1, w1, hrun, hown1, hg, _, hat⟩ := run_append_own_at (P := P) (W.alloc (.cells cs.toArray e)) base t o.type e i0 z d.sz bytes ht hi hz0 hz1 hz2 hz hs0 v xs.length inner (hown.alloc _) ⟨W.heap.size, 0, none⟩ 1 1 cs hys hnews h1 (by simp only [maxLen]; omega) hl (by simp; omega)
  have hkeep := append_keeps (P := P) (W.alloc (.cells cs.toArray e)) base t o.type e i0 z d.sz bytes ht hi hz0 hz1 hz2 v xs.length inner (hown.alloc _) ⟨W.heap.size, 0, none⟩ 1 1 cs hys hnews h1 (by omega) hl hrun
  have hat' : v1.ownBlock = v.ownBlock ∨ ∃ b, v1.ownBlock = some b ∧ W.heap.size ≤ b := by
    rcases hat with hat | hat
    · exact .inl hat
    · exact .inr ⟨_, hat, by simp⟩
  have hgW : W.grownBy w1 v.ownBlock := World.grownBy.trans (World.grownBy_alloc W _ _) hg
  have hR1 : d.R e w1 base ok v1 (xs ++ [p]) := Kd.R_appended h0 hr hp hokp hfresh hown1 hgW hat'
  unfold Oper.wp execOp
  simp only [ho, resolve, invoke, builtin, Sem.run_bind, Sem.run_pure, Result.andThen_ok, List.map_toArray, List.map_cons, List.map_nil, hs, hx, hrun]
  refine hK _ _ (h v1 w1 hR1 ((HB.alloc hbase _).grown hg (by simp; omega) (own_base hown)) hgW hat' ?_)
  intro A n c hv
  subst hv
  obtain ⟨hn, hnc, hC⟩ := Kd.R_reads' HO'
  rcases hkeep with hk | hk
  · rcases Nat.eq_zero_or_pos xs.length with hx0 | hx0
    · obtain rfl := List.eq_nil_of_length_eq_zero hx0
      exact ⟨rfl, by simp, fun h => absurd h (Nat.lt_irrefl 0)⟩
    · obtain ⟨g, cap, hv, _, _, _⟩ := Kd.R_form HO' hx0
      obtain ⟨g1, cap1, hv1, _, _, _⟩ := Kd.R_form hR1 (by simp)
      injection hv with hA
      subst hA
      rw [hv1] at hk hR1
      have : g1 = g := by simpa [Value.ownBlock] using hk
      subst this
      have hC1 := (Kd.R_reads' hR1).2.2
      have := Kd.C_take (m := xs.length) hC1 (by simp)
      simpa using this
  · exact Kd.C_below hC ⟨hgW.os, hgW.tape, hgW.output, hgW.size, fun k hlt => (hk k (by simpa using Nat.lt_succ_of_lt hlt)).trans (Below.heap_alloc W _ k hlt)⟩
end

end Go.Proofs.Ytkchnocliilapaa.Q
