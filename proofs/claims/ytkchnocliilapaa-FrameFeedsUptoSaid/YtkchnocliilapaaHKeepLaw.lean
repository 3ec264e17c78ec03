/- keep (layer 24's statements), by hand: a list is written over with a mark, and one more is appended behind it; both bear the mark. -/

import Derived.Test.YtkchnocliilapaaQx0
import Derived.Test.YtkchnocliilapaaQx3
import Derived.Test.YtkchnocliilapaaHKeep
import Derived.IntWalk
namespace Go.Proofs.Ytkchnocliilapaa.Q
open Go.RowKit Go.Proofs.YtkchnocliilapaaW.PrintWords Go.Proofs.YtkchnocliilapaaW.PrintLast Go.Proofs.YtkchnocliilapaaW.PrintMore
attribute [local go_sem] max2_int min2_int max_two min_two max_three min_three max_four min_four   -- for this text's walks alone
set_option linter.unusedVariables false
set_option linter.unusedSimpArgs false

def mkP (m : Int) : S23 := ⟨-m - 1, ByteArray.empty⟩
theorem marks_set (l : List S23) (x : S23) (k : Nat) (hk : k < l.length) : (List.replicate k x ++ l.drop k).set k x = List.replicate (k + 1) x ++ l.drop (k + 1) := by
  rw [List.set_append]
  simp only [List.length_replicate, Nat.lt_irrefl, if_false, Nat.sub_self]
  rw [List.drop_eq_getElem_cons hk, List.set_cons_zero, List.replicate_succ', List.append_assoc]
  rfl
/-- One parcel of a row of the call's own is written over. -/
theorem parcel_put {W : World} {base : Nat} {ok : Nat → Prop} {A : Option Addr} {c n : Nat} {xs : List S23} (h : Kd.R k23 23 W base ok (.slice A n c) xs) (i : Nat) (hi : i < n) :
    ∃ g, A = some ⟨g, 0, none⟩ ∧ base ≤ g ∧ g < W.heap.size ∧ (∃ cells, W.heap[g]? = some (.cells cells 23 (0, 0))) ∧ n = xs.length ∧ (∃ u, W.cell? ⟨g, i * 2, none⟩ = some u) ∧ (∃ u, W.cell? ⟨g, i * 2 + 1, none⟩ = some u) ∧ W.frozen? ⟨g, i * 2, none⟩ = false ∧ W.frozen? ⟨g, i * 2 + 1, none⟩ = false ∧
      ∀ x : S23, Kd.R k23 23 ((W.setCell ⟨g, i * 2, none⟩ (.int .i64 x.f0)).setCell ⟨g, i * 2 + 1, none⟩ (.string x.f1)) base ok (.slice A n c) (xs.set i x) := by
  obtain ⟨hn, hnc, _⟩ := Kd.R_reads' h
  obtain ⟨g, cap, hv, hb, hlt, cells, hcl0⟩ := Kd.R_form h (by omega)
  injection hv with hA _ hcap
  subst hA
  obtain ⟨ce, hcl, hM, hcc, hfr⟩ := Kd.R_elem h (⟨0, ByteArray.empty⟩ : S23) (i : Int) (by omega) (by omega)
  obtain rfl := k23_openM hM
  have P0 := fun x : S23 => Kd.R_seg h (i : Int) (by omega) (by omega) (seg := [.int .i64 x.f0, .string x.f1]) (j := 0) hcl hcc (show 2 ≤ 2 from by decide) (x' := x) (k23_mkM _ _ _ x) (fun _ hk => hk)
  exact ⟨g, rfl, hb, hlt, ⟨cells, hcl0⟩, hn, ⟨_, hcc 0 _ rfl⟩, ⟨_, hcc 1 _ rfl⟩, hfr 0, hfr 1, fun x => (P0 x).1⟩

theorem C23_same {w w1 : World} {A : Option Addr} {n : Nat} {xs : List S23} (h : Kd.C k23 w A n xs) (hb : ∀ a, A = some a → w1.heap[a.block]? = w.heap[a.block]?) : Kd.C k23 w1 A n xs := by
  refine ⟨h.1, h.2.1, fun hp => ?_⟩
  obtain ⟨ad, rfl, hc⟩ := h.2.2 hp
  refine ⟨ad, rfl, fun j p hj => ?_⟩
  obtain ⟨c, h1, h2, h3⟩ := hc j p hj
  refine ⟨c, h1, ?_, fun i u hu => ?_⟩
  · obtain rfl := k23_open h2
    exact k23_mk _ _
  · rw [← h3 i u hu]
    refine World.cell?_of_block ?_
    rw [add_block]
    exact hb ad rfl

theorem kept_set {w w1 : World} {g : Nat} {S : Nat → Prop} (h : Kept w w1 S) (hg : S g) (j : Nat) (v : Value) : Kept w (w1.setCell ⟨g, j, none⟩ v) S :=
  ⟨by simpa using h.1, fun i hi hne => (Below.heap_setCell w1 ⟨g, j, none⟩ v i (fun e => hne (by rw [e]; exact hg))).trans (h.2 i hi hne)⟩
theorem kept_new {w w1 : World} {g : Nat} {S : Nat → Prop} (h : Kept w w1 S) (hg : w.heap.size ≤ g) (j : Nat) (v : Value) : Kept w (w1.setCell ⟨g, j, none⟩ v) S :=
  ⟨by simpa using h.1, fun i hi hne => (Below.heap_setCell w1 ⟨g, j, none⟩ v i (fun e => by have e' : i = g := e; omega)).trans (h.2 i hi hne)⟩
theorem kept_own {w w1 w2 : World} {A : Option Addr} {n c : Nat} (h : Kept w w1 (fun k => ∃ a, A = some a ∧ k = a.block)) (hg : w1.grownBy w2 (Value.slice A n c).ownBlock) : Kept w w2 (fun k => ∃ a, A = some a ∧ k = a.block) :=
  ⟨Nat.le_trans h.1 hg.size, fun i hi hne => (hg.block i (Nat.lt_of_lt_of_le hi h.1) (fun e => by
    cases A with
    | none => cases e
    | some a => injection e with e; exact hne ⟨a, rfl, e⟩)).trans (h.2 i hi hne)⟩

set_option maxHeartbeats 2000000 in
theorem keep.calls (w0 w : World) (A : Option Addr) (c : Nat) (l : List S23) (m : Int) (hO : Kd.R k23 23 w w0.heap.size (fun _ => True) (.slice A l.length c) l) (hB : Below w0.heap.size w0 w) (hl : l.length < 1000000000000) (hm0 : 0 ≤ m) (hm1 : m < 1000000000000) :
    Calls Try.prog 11 #[.slice A l.length c, .int .i64 m] w fun e w' => ∃ A2 c2, e = .returned (.agg #[.slice A l.length c, .slice A2 (l.length + 1) c2, .int .i64 m]) ∧ l.length ≤ c ∧ l.length + 1 ≤ c2 ∧ Kd.C k23 w' A l.length (List.replicate l.length (mkP m)) ∧ Kd.C k23 w' A2 (l.length + 1) (List.replicate (l.length + 1) (mkP m)) ∧ Below w0.heap.size w0 w' ∧ Kept w w' (fun k => ∃ a, A = some a ∧ k = a.block) := by
  have hu23 := Try.underlying23
  have hu31 := Try.underlying31
  have HO := Aside0.mk hO
  have HB := Aside0.mk hB
  clear hO hB
  go_enter Try.func11, Try.ntmps11
  go_wp2_with (((with_reducible refine gate_dst (N := 4) rfl ?_); refine box_event ?hg (N := 4) ?hd (cs := #[.slice none 0 0, .slice none 0 0, .int .i64 0]) (t := 31) ?hr ?_; (case hd => rfl); (case hg => rfl); (case hr => first | (go_simp; done) | (go_simp; rfl)); intro g4 hgx w4 hbox hbw; have HBOX := Aside0.mk hbox; have HB4 := Aside0.mk (below_then HB.out HB.out.size hbw); have HO4 := Aside0.mk (Kd.R_below (Kd.R_elderB HO.out g4 (Nat.le_of_eq hgx.symm)) hbw); have HG4 := Aside0.mk (show w0.heap.size ≤ g4 by rw [hgx]; exact HB.out.size); have HGW := Aside0.mk (Nat.le_of_eq hgx.symm); have HKW := Aside0.mk (show Kept w w4 (fun k => ∃ a, A = some a ∧ k = a.block) from ⟨hbw.size, fun i hi _ => hbw.block i hi⟩); clear hgx hbox hbw))
  clear HO HB
  go_loopw [5] (fun i wr => ∃ k : Nat, k ≤ l.length ∧ i = .int .i64 k ∧ Aside0 (Kd.R k23 23 wr w0.heap.size (fun k => True ∧ k ≠ g4) (.slice A l.length c) (List.replicate k (mkP m) ++ l.drop k)) ∧ Aside0 (Below w0.heap.size w0 wr) ∧ Aside0 (wr.heap[g4]? = some (.cells #[.slice none 0 0, .slice none 0 0, .int .i64 0] 31 (0, 0))) ∧ Aside0 (Kept w wr (fun k => ∃ a, A = some a ∧ k = a.block))) (fun i _ => l.length - (intOf i).toNat)
  case atStart => exact ⟨0, Nat.zero_le _, rfl, HO4, HB4, HBOX, HKW⟩
  case round =>
    clear HO4 HB4 HBOX HKW
    obtain ⟨k, hk, rfl, HR, HB, HX, HKP⟩ := hrel
    by_cases hlt : k < l.length
    · obtain ⟨g, rfl, hgb, hglt, ⟨cells, hcells⟩, hn, ⟨u0, hu0⟩, ⟨u1, hu1⟩, hf0, hf1, hput⟩ := parcel_put HR.out k hlt
      have hne : g ≠ g4 := blk_ne hcells HX.out (by decide)
      have HP := Aside0.mk (hput (mkP m))
      rw [marks_set l (mkP m) k hlt] at HP
      have HGB := Aside0.mk hgb
      have HNE := Aside0.mk hne
      clear hput hcells hn hne hgb
      go_wp2
      go_roundw
      case rel => exact ⟨k + 1, by omega, by go_num, HP, ⟨(HB.out.setCell HGB.out _).setCell HGB.out _⟩, ⟨(blk_far (blk_far HX.out (Ne.symm HNE.out) _) (Ne.symm HNE.out) _)⟩, ⟨kept_set (kept_set HKP.out (S := fun k => ∃ a : Addr, some (⟨g, 0, none⟩ : Addr) = some a ∧ k = a.block) ⟨_, rfl, rfl⟩ _ _) ⟨_, rfl, rfl⟩ _ _⟩⟩
      case measure => simp [intOf]; omega
    · obtain rfl : k = l.length := by omega
      have HR' : Aside0 (Kd.R k23 23 wr w0.heap.size (fun k => True ∧ k ≠ g4) (.slice A l.length c) (List.replicate l.length (mkP m))) := ⟨by have := HR.out; rwa [List.drop_length, List.append_nil] at this⟩
      have hcc := (Kd.R_reads' HR'.out).2.1
      have HCC := Aside0.mk hcc
      clear HR hcc
      go_wp2_with ((with_reducible refine gate_builtin (b := .append) (xs := #[.tmp 20, .tmp 25]) rfl ?_); at_builtin; refine R_append_keep k23 (w0 := w0) w0.heap.size rfl (.tmp 20) (.tmp 25) 24 23 (.agg #[(.int .i64 0), (.string ByteArray.empty)]) 24 rfl Try.underlying24 info23 rfl (by decide) (by omega) (.slice A l.length c) (List.replicate l.length (mkP m)) (mkP m) [.int .i64 (-m - 1), .string ByteArray.empty] (fun k => True ∧ k ≠ g4) (fun _ => False) rfl rfl (k23_mkM _ _ _ (mkP m)) (fun _ hk => hk.elim) (fun k hk => ⟨trivial, Nat.ne_of_gt (Nat.lt_of_lt_of_le (blk_lt HX.out) hk)⟩) HR'.out HB.out HB.out.size (by rw [List.length_replicate]; omega) ?_; intro v1 w1 ho hb hg hat hkeep; have HK1 := Aside0.mk (hkeep _ _ _ rfl); have HB1 := Aside0.mk hb; have HKP1 := Aside0.mk (kept_own HKP.out hg); have HX1 := Aside0.mk ((hg.block g4 (blk_lt HX.out) (fun e => (HR'.out.1 g4 e.symm).2 rfl)).trans HX.out); obtain ⟨A1, c1, rfl⟩ := Kd.R_slice ho; have HO1 := Aside0.mk ho; have HL1 := Aside0.mk (Kd.R_reads' ho).2.1; clear ho hb hg hat hkeep; have hc0 := blk_cell HX1.out 0; have hc1 := blk_cell HX1.out 1; have hc2 := blk_cell HX1.out 2; have hf0 := blk_frozen HX1.out 0; have hf1 := blk_frozen HX1.out 1; have hf2 := blk_frozen HX1.out 2)
      have z := blk_set (blk_set (blk_set HX1.out 0 (.slice A l.length c)) 1 (.slice A1 (l.length + 1) c1)) 2 (.int .i64 m)
      have z0 := blk_cell z 0
      have z1 := blk_cell z 1
      have z2 := blk_cell z 2
      have hA : ∀ a, A = some a → a.block ≠ g4 := fun a ha => (HR'.out.1 a.block (by rw [ha]; rfl)).2
      have hR2 := Kd.R_far (Kd.R_far (Kd.R_far HO1.out (p := ⟨g4, 0, none⟩) (fun k hk => hk.2) (.slice A l.length c)) (p := ⟨g4, 1, none⟩) (fun k hk => hk.2) (.slice A1 (l.length + 1) c1)) (p := ⟨g4, 2, none⟩) (fun k hk => hk.2) (.int .i64 m)
      have hC2 := (Kd.R_reads' hR2).2.2
      have e1 : List.replicate l.length (mkP m) ++ [mkP m] = List.replicate (l.length + 1) (mkP m) := by rw [List.replicate_succ']
      rw [e1, List.length_replicate] at hC2
      have hl1 := HL1.out
      rw [e1, List.length_replicate] at hl1
      have hK2 : Kd.C k23 (((w1.setCell ⟨g4, 0, none⟩ (.slice A l.length c)).setCell ⟨g4, 1, none⟩ (.slice A1 (l.length + 1) c1)).setCell ⟨g4, 2, none⟩ (.int .i64 m)) A l.length (List.replicate l.length (mkP m)) :=
        C23_same (by have := HK1.out; rwa [List.length_replicate] at this) (fun a ha => by
          rw [Below.heap_setCell _ ⟨g4, 2, none⟩ _ _ (hA a ha), Below.heap_setCell _ ⟨g4, 1, none⟩ _ _ (hA a ha), Below.heap_setCell _ ⟨g4, 0, none⟩ _ _ (hA a ha)])
      refine bodyPost_ret (v := .agg #[.slice A l.length c, .slice A1 (l.length + 1) c1, .int .i64 m]) ?_ rfl ⟨A1, c1, rfl, HCC.out, hl1, hK2, hC2, ((HB1.out.setCell HG4.out _).setCell HG4.out _).setCell HG4.out _, kept_new (kept_new (kept_new HKP1.out HGW.out _ _) HGW.out _ _) HGW.out _ _⟩
      simp at z0 z1 z2
      simp [results, Try.results11, go_sem, z0, z1, z2]

end Go.Proofs.Ytkchnocliilapaa.Q
