/- keep (layer 24's statements) once more, with where its rows lie; the state of FrameFeeds: two framers of each kind, and the book. -/
import Derived.Test.YtkchnocliilapaaQx0
import Derived.Test.YtkchnocliilapaaQx3
import Derived.Test.YtkchnocliilapaaHFeeds
import Derived.Test.YtkchnocliilapaaHKeep
import Derived.Test.YtkchnocliilapaaHKeepLaw
import Derived.IntWalk
import Derived.Maps.AppendAt
import Derived.Deep.AppendLies
import Derived.Laws.BitsLemmas
namespace Go.Proofs.Ytkchnocliilapaa.Q
open Go.RowKit Go.Proofs.YtkchnocliilapaaW.PrintWords Go.Proofs.YtkchnocliilapaaW.PrintLast Go.Proofs.YtkchnocliilapaaW.PrintMore
attribute [local go_sem] max2_int min2_int max_two min_two max_three min_three max_four min_four   -- for this text's walks alone
set_option linter.unusedVariables false
set_option linter.unusedSimpArgs false

section
variable {P : Program} {ops : Array Oper} {rest : List Oper} {o : Oper} {a : Act} {Q : Exit → Act → World → Prop} {α : Type}
/-- As Kd.R_append; and what the elder slice reads, it reads on. -/
theorem R_append_keep2 (d : Kd α) {w0 W : World} (base : Nat) (hgd : o.guard = none) (s x : Operand) (t e : TypeId) (z : Value) (bytes : Nat)
    (ho : o.op = .call { callee := .builtin .append, args := #[s, x], argTypes := #[t, t] })
    (ht : P.underlying t = some (.slice e)) (hinfo : (P.info? e).map (fun i => (i.zero, i.size, i.bytes)) = some (some z, d.sz, bytes)) (hz : z.cells.size = d.sz) (hs0 : 0 < d.sz) (hb0 : 0 < bytes)
    (v : Value) (xs : List α) (p : α) (cs : List Value) (ok okp : Nat → Prop) (hs : a.eval s = v) (hx : a.eval x = .slice (some ⟨W.heap.size, 0, none⟩) 1 1) (hp : d.M W base okp p cs) (hokp : ∀ k, okp k → ok k ∧ some k ≠ v.ownBlock) (hfresh : ∀ k, W.heap.size ≤ k → ok k)
    (HO : d.R e W base ok v xs) (HB : Below base w0 W) (hbase : base ≤ W.heap.size) (hl : (xs.length + 1) * bytes ≤ 140737488355328)
    (h : ∀ v1 w1, d.R e w1 base ok v1 (xs ++ [p]) → Below base w0 w1 → W.grownBy w1 v.ownBlock → (v1.ownBlock = v.ownBlock ∨ ∃ b, v1.ownBlock = some b ∧ W.heap.size ≤ b) → (∀ A n c, v = .slice A n c → d.C w1 A xs.length xs) → (v1.ownBlock = v.ownBlock ∨ ∀ k, k < W.heap.size → w1.heap[k]? = W.heap[k]?) → wpList P ops Q rest (a.put o.dst v1) w1) :
    wpList P ops Q (o :: rest) a (W.alloc (.cells cs.toArray e)) := by
  obtain ⟨i0, hi, hzz⟩ := Option.map_eq_some_iff.1 hinfo
  simp only [Prod.mk.injEq] at hzz
  obtain ⟨hz0, hz1, hz2⟩ := hzz
  have hlen : xs.length + 1 ≤ 140737488355328 := Nat.le_trans (Nat.le_mul_of_pos_right _ hb0) hl
  have HO' := HO
  obtain ⟨h0, inner, hown, hr⟩ := HO
  have hys : cs.length = 1 * d.sz := by rw [d.K_len (d.K_of_M hp)]; simp
  have hnews : ∀ j u, cs[j]? = some u → (W.alloc (.cells cs.toArray e)).cell? ((⟨W.heap.size, 0, none⟩ : Addr).add j) = some u := by
    simpa using World.news_of_block (cs := cs.toArray) (t := e) (fr := (0, 0)) (heap_alloc_new W (.cells cs.toArray e))
  have h1 := d.K_one (d.K_of_M hp)
  refine wpList_plain hgd fun K hK => ?_
  obtain ⟨v1, w1, hrun, hown1, hg, _, hat⟩ := run_append_own_at (P := P) (W.alloc (.cells cs.toArray e)) base t o.type e i0 z d.sz bytes ht hi hz0 hz1 hz2 hz hs0 v xs.length inner (hown.alloc _) ⟨W.heap.size, 0, none⟩ 1 1 cs hys hnews h1 (by simp only [maxLen]; omega) hl (by simp; omega)
  have hkeep := append_keeps (P := P) (W.alloc (.cells cs.toArray e)) base t o.type e i0 z d.sz bytes ht hi hz0 hz1 hz2 v xs.length inner (hown.alloc _) ⟨W.heap.size, 0, none⟩ 1 1 cs hys hnews h1 (by omega) hl hrun
  have hat' : v1.ownBlock = v.ownBlock ∨ ∃ b, v1.ownBlock = some b ∧ W.heap.size ≤ b := by
    rcases hat with hat | hat
    · exact .inl hat
    · exact .inr ⟨_, hat, by simp⟩
  have hgW : W.grownBy w1 v.ownBlock := World.grownBy.trans (World.grownBy_alloc W _ _) hg
  have hR1 : d.R e w1 base ok v1 (xs ++ [p]) := Kd.R_appended h0 hr hp hokp hfresh hown1 hgW hat'
  unfold Oper.wp execOp
  simp only [ho, resolve, invoke, builtin, Sem.run_bind, Sem.run_pure, Result.andThen_ok, List.map_toArray, List.map_cons, List.map_nil, hs, hx, hrun]
  refine hK _ _ (h v1 w1 hR1 ((HB.alloc hbase _).grown hg (by simp; omega) (own_base hown)) hgW hat' ?_ (hkeep.imp (fun h => h) (fun hk k hlt => (hk k (by simpa using Nat.lt_succ_of_lt hlt)).trans (Below.heap_alloc W _ k hlt))))
  intro A n c hv
  subst hv
  obtain ⟨hn, hnc, hC⟩ := Kd.R_reads' HO'
  rcases hkeep with hk | hk
  · rcases Nat.eq_zero_or_pos xs.length with hx0 | hx0
    · obtain rfl := List.eq_nil_of_length_eq_zero hx0
      exact ⟨rfl, by simp, fun h => absurd h (Nat.lt_irrefl 0)⟩
    · obtain ⟨g, cap, hv, _, _, _⟩ := Kd.R_form HO' hx0
      obtain ⟨g1, cap1, hv1, _, _, _⟩ := Kd.R_form hR1 (by simp)
      injection hv with hA
      subst hA
      rw [hv1] at hk hR1
      have : g1 = g := by simpa [Value.ownBlock] using hk
      subst this
      have hC1 := (Kd.R_reads' hR1).2.2
      have := Kd.C_take (m := xs.length) hC1 (by simp)
      simpa using this
  · exact Kd.C_below hC ⟨hgW.os, hgW.tape, hgW.output, hgW.size, fun k hlt => (hk k (by simpa using Nat.lt_succ_of_lt hlt)).trans (Below.heap_alloc W _ k hlt)⟩
end
set_option maxHeartbeats 2000000 in
theorem keep2.calls (w0 w : World) (A : Option Addr) (c : Nat) (l : List S23) (m : Int) (hO : Kd.R k23 23 w w0.heap.size (fun _ => True) (.slice A l.length c) l) (hB : Below w0.heap.size w0 w) (hl : l.length < 1000000000000) (hm0 : 0 ≤ m) (hm1 : m < 1000000000000) :
    Calls Try.prog 11 #[.slice A l.length c, .int .i64 m] w fun e w' => ∃ A2 c2, e = .returned (.agg #[.slice A l.length c, .slice A2 (l.length + 1) c2, .int .i64 m]) ∧ l.length ≤ c ∧ l.length + 1 ≤ c2 ∧ Kd.C k23 w' A l.length (List.replicate l.length (mkP m)) ∧ Kd.C k23 w' A2 (l.length + 1) (List.replicate (l.length + 1) (mkP m)) ∧ Below w0.heap.size w0 w' ∧ Kept w w' (fun k => ∃ a, A = some a ∧ k = a.block) ∧ (∀ a, A2 = some a → (∃ a0, A = some a0 ∧ a.block = a0.block) ∨ w.heap.size ≤ a.block) ∧ (∀ a, A = some a ∨ A2 = some a → w0.heap.size ≤ a.block ∧ ∃ cells, w'.heap[a.block]? = some (.cells cells 23 (0, 0))) := by
  have hu23 := Try.underlying23
  have hu31 := Try.underlying31
  have HO := Aside0.mk hO
  have HB := Aside0.mk hB
  clear hO hB
  go_enter Try.func11, Try.ntmps11
  go_wp2_with (((with_reducible refine gate_dst (N := 4) rfl ?_); refine box_event ?hg (N := 4) ?hd (cs := #[.slice none 0 0, .slice none 0 0, .int .i64 0]) (t := 31) ?hr ?_; (case hd => rfl); (case hg => rfl); (case hr => first | (go_simp; done) | (go_simp; rfl)); intro g4 hgx w4 hbox hbw; have HBOX := Aside0.mk hbox; have HB4 := Aside0.mk (below_then HB.out HB.out.size hbw); have HO4 := Aside0.mk (Kd.R_below (Kd.R_elderB HO.out g4 (Nat.le_of_eq hgx.symm)) hbw); have HG4 := Aside0.mk (show w0.heap.size ≤ g4 by rw [hgx]; exact HB.out.size); have HGW := Aside0.mk (Nat.le_of_eq hgx.symm); have HKW := Aside0.mk (show Kept w w4 (fun k => ∃ a, A = some a ∧ k = a.block) from ⟨hbw.size, fun i hi _ => hbw.block i hi⟩); clear hgx hbox hbw))
  clear HO HB
  go_loopw [5] (fun i wr => ∃ k : Nat, k ≤ l.length ∧ i = .int .i64 k ∧ Aside0 (Kd.R k23 23 wr w0.heap.size (fun k => True ∧ k ≠ g4) (.slice A l.length c) (List.replicate k (mkP m) ++ l.drop k)) ∧ Aside0 (Below w0.heap.size w0 wr) ∧ Aside0 (wr.heap[g4]? = some (.cells #[.slice none 0 0, .slice none 0 0, .int .i64 0] 31 (0, 0))) ∧ Aside0 (Kept w wr (fun k => ∃ a, A = some a ∧ k = a.block))) (fun i _ => l.length - (intOf i).toNat)
  case atStart => exact ⟨0, Nat.zero_le _, rfl, HO4, HB4, HBOX, HKW⟩
  case round =>
    clear HO4 HB4 HBOX HKW
    obtain ⟨k, hk, rfl, HR, HB, HX, HKP⟩ := hrel
    by_cases hlt : k < l.length
    · obtain ⟨g, rfl, hgb, hglt, ⟨cells, hcells⟩, hn, ⟨u0, hu0⟩, ⟨u1, hu1⟩, hf0, hf1, hput⟩ := parcel_put HR.out k hlt
      have hne : g ≠ g4 := blk_ne hcells HX.out (by decide)
      have HP := Aside0.mk (hput (mkP m))
      rw [marks_set l (mkP m) k hlt] at HP
      have HGB := Aside0.mk hgb
      have HNE := Aside0.mk hne
      clear hput hcells hn hne hgb
      go_wp2
      go_roundw
      case rel => exact ⟨k + 1, by omega, by go_num, HP, ⟨(HB.out.setCell HGB.out _).setCell HGB.out _⟩, ⟨(blk_far (blk_far HX.out (Ne.symm HNE.out) _) (Ne.symm HNE.out) _)⟩, ⟨kept_set (kept_set HKP.out (S := fun k => ∃ a : Addr, some (⟨g, 0, none⟩ : Addr) = some a ∧ k = a.block) ⟨_, rfl, rfl⟩ _ _) ⟨_, rfl, rfl⟩ _ _⟩⟩
      case measure => simp [intOf]; omega
    · obtain rfl : k = l.length := by omega
      have HR' : Aside0 (Kd.R k23 23 wr w0.heap.size (fun k => True ∧ k ≠ g4) (.slice A l.length c) (List.replicate l.length (mkP m))) := ⟨by have := HR.out; rwa [List.drop_length, List.append_nil] at this⟩
      have hcc := (Kd.R_reads' HR'.out).2.1
      have HCC := Aside0.mk hcc
      clear HR hcc
      have HGWW := Aside0.mk (show w.heap.size ≤ wr.heap.size from HKP.out.1)
      go_wp2_with ((with_reducible refine gate_builtin (b := .append) (xs := #[.tmp 20, .tmp 25]) rfl ?_); at_builtin; refine R_append_keep2 k23 (w0 := w0) w0.heap.size rfl (.tmp 20) (.tmp 25) 24 23 (.agg #[(.int .i64 0), (.string ByteArray.empty)]) 24 rfl Try.underlying24 info23 rfl (by decide) (by omega) (.slice A l.length c) (List.replicate l.length (mkP m)) (mkP m) [.int .i64 (-m - 1), .string ByteArray.empty] (fun k => True ∧ k ≠ g4) (fun _ => False) rfl rfl (k23_mkM _ _ _ (mkP m)) (fun _ hk => hk.elim) (fun k hk => ⟨trivial, Nat.ne_of_gt (Nat.lt_of_lt_of_le (blk_lt HX.out) hk)⟩) HR'.out HB.out HB.out.size (by rw [List.length_replicate]; omega) ?_; intro v1 w1 ho hb hg hat hkeep hkb; have HKB := Aside0.mk hkb; have HAT := Aside0.mk hat; clear hkb; have HK1 := Aside0.mk (hkeep _ _ _ rfl); have HB1 := Aside0.mk hb; have HKP1 := Aside0.mk (kept_own HKP.out hg); have HX1 := Aside0.mk ((hg.block g4 (blk_lt HX.out) (fun e => (HR'.out.1 g4 e.symm).2 rfl)).trans HX.out); obtain ⟨A1, c1, rfl⟩ := Kd.R_slice ho; have HO1 := Aside0.mk ho; have HL1 := Aside0.mk (Kd.R_reads' ho).2.1; clear ho hb hg hat hkeep; have hc0 := blk_cell HX1.out 0; have hc1 := blk_cell HX1.out 1; have hc2 := blk_cell HX1.out 2; have hf0 := blk_frozen HX1.out 0; have hf1 := blk_frozen HX1.out 1; have hf2 := blk_frozen HX1.out 2)
      have z := blk_set (blk_set (blk_set HX1.out 0 (.slice A l.length c)) 1 (.slice A1 (l.length + 1) c1)) 2 (.int .i64 m)
      have z0 := blk_cell z 0
      have z1 := blk_cell z 1
      have z2 := blk_cell z 2
      have hA : ∀ a, A = some a → a.block ≠ g4 := fun a ha => (HR'.out.1 a.block (by rw [ha]; rfl)).2
      have hR2 := Kd.R_far (Kd.R_far (Kd.R_far HO1.out (p := ⟨g4, 0, none⟩) (fun k hk => hk.2) (.slice A l.length c)) (p := ⟨g4, 1, none⟩) (fun k hk => hk.2) (.slice A1 (l.length + 1) c1)) (p := ⟨g4, 2, none⟩) (fun k hk => hk.2) (.int .i64 m)
      have hC2 := (Kd.R_reads' hR2).2.2
      have e1 : List.replicate l.length (mkP m) ++ [mkP m] = List.replicate (l.length + 1) (mkP m) := by rw [List.replicate_succ']
      rw [e1, List.length_replicate] at hC2
      have hl1 := HL1.out
      rw [e1, List.length_replicate] at hl1
      have hK2 : Kd.C k23 (((w1.setCell ⟨g4, 0, none⟩ (.slice A l.length c)).setCell ⟨g4, 1, none⟩ (.slice A1 (l.length + 1) c1)).setCell ⟨g4, 2, none⟩ (.int .i64 m)) A l.length (List.replicate l.length (mkP m)) :=
        C23_same (by have := HK1.out; rwa [List.length_replicate] at this) (fun a ha => by
          rw [Below.heap_setCell _ ⟨g4, 2, none⟩ _ _ (hA a ha), Below.heap_setCell _ ⟨g4, 1, none⟩ _ _ (hA a ha), Below.heap_setCell _ ⟨g4, 0, none⟩ _ _ (hA a ha)])
      refine bodyPost_ret (v := .agg #[.slice A l.length c, .slice A1 (l.length + 1) c1, .int .i64 m]) ?_ rfl ⟨A1, c1, rfl, HCC.out, hl1, hK2, hC2, ((HB1.out.setCell HG4.out _).setCell HG4.out _).setCell HG4.out _, kept_new (kept_new (kept_new HKP1.out HGW.out _ _) HGW.out _ _) HGW.out _ _, ?_, ?_⟩
      · simp at z0 z1 z2
        simp [results, Try.results11, go_sem, z0, z1, z2]
      · intro a ha
        subst ha
        rcases HAT.out with h | ⟨b, h, hb⟩
        · cases A with
          | none => cases h
          | some a0 => exact .inl ⟨a0, rfl, by injection h⟩
        · injection h with h
          exact .inr (Nat.le_trans HGWW.out (by rw [show a.block = b from h]; exact hb))
      · intro a ha
        rcases ha with ha | ha
        · subst ha
          obtain ⟨i0, ho0⟩ := Kd.R_own HR'.out
          refine ⟨own_base ho0 a.block rfl, ?_⟩
          have hne : a.block ≠ g4 := hA a rfl
          have far : ∀ {cells}, w1.heap[a.block]? = some (.cells cells 23 (0, 0)) → ∃ cells, ((((w1.setCell ⟨g4, 0, none⟩ (.slice (some a) l.length c)).setCell ⟨g4, 1, none⟩ (.slice A1 (l.length + 1) c1)).setCell ⟨g4, 2, none⟩ (.int .i64 m)).heap[a.block]? = some (.cells cells 23 (0, 0))) := fun h => ⟨_, by
            rw [Below.heap_setCell _ ⟨g4, 2, none⟩ _ _ hne, Below.heap_setCell _ ⟨g4, 1, none⟩ _ _ hne, Below.heap_setCell _ ⟨g4, 0, none⟩ _ _ hne]; exact h⟩
          rcases HKB.out with h | h
          · obtain ⟨i1, ho1⟩ := Kd.R_own HO1.out
            obtain ⟨cs, hcs⟩ := own_typed ho1 a.block h
            exact far hcs
          · obtain ⟨cs, hcs⟩ := own_typed ho0 a.block rfl
            exact far ((h a.block (own_lt ho0 a.block rfl)).trans hcs)
        · subst ha
          obtain ⟨i2, ho2⟩ := Kd.R_own hR2
          exact ⟨own_base ho2 a.block rfl, own_typed ho2 a.block rfl⟩

end Go.Proofs.Ytkchnocliilapaa.Q
