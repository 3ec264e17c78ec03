/- The contract of lay.Place (layer 7), by hand: rooms laid one behind the other; what is refused, with its number. -/

import Derived.Test.YthckejcoekhdjaaQx0
import Derived.Test.YthckejcoekhdjaaHRow
import Derived.StillTailTactics
import Derived.Defers
import Derived.BigRegion
namespace Go.Proofs.Ythckejcoekhdjaa.Q
open Go.RowKit Go.Proofs.YthckejcoekhdjaaW.PrintWords Go.Proofs.YthckejcoekhdjaaW.PrintLast Go.Proofs.YthckejcoekhdjaaW.PrintMore
attribute [local go_sem] max2_int min2_int max_two min_two max_three min_three max_four min_four   -- for this text's walks alone
set_option linter.unusedVariables false
set_option linter.unusedSimpArgs false

/-- Rooms laid behind those that have been: the offsets and the end, or what refuses one and its number. -/
def placeGo : List S39 → Int → List Int → Int → (List Int × Int) ⊕ (Int × Int)
  | [], _, acc, e => .inl (acc, e)
  | x :: xs, i, acc, e => if layErr e x = 0 then placeGo xs (i + 1) (acc ++ [layAt e x]) (layAt e x + x.f0) else .inr (layErr e x, i)
def placeEnd (n a1 : Int) : (List Int × Int) ⊕ (Int × Int) → List Int × Int × Int × Int
  | .inr (e, i) => ([], 0, e, i)
  | .inl (acc, e) => if a1 = -1 then (acc, e, 0, 0) else if a1 < e then ([], 0, 71, n) else (acc, a1, 0, 0)
def lay_Place.f (l0 : List S39) (a1 : Int) : Option (List Int × Int × Int × Int) :=
  if l0.length < 8796093022208 then some (if a1 < -1 then ([], 0, 73, l0.length) else if 65535 < a1 then ([], 0, 72, l0.length) else placeEnd l0.length a1 (placeGo l0 0 [] 0)) else none

theorem placeGo_round {l0 : List S39} {i : Nat} (hlt : i < l0.length) (n : Int) (acc : List Int) (e : Int) :
    placeGo (l0.drop i) n acc e = if layErr e (rd_T39 l0 i) = 0 then placeGo (l0.drop (i + 1)) (n + 1) (acc ++ [layAt e (rd_T39 l0 i)]) (layAt e (rd_T39 l0 i) + (rd_T39 l0 i).f0) else .inr (layErr e (rd_T39 l0 i), n) := by
  rw [List.drop_eq_getElem_cons hlt, placeGo]
  simp [rd_T39, List.getD_eq_getElem?_getD, List.getElem?_eq_getElem hlt]

theorem lay_Place1.zero (u : FrameMode) (w : World) (bf bo bl : Nat) (hf : w.cell? ⟨bf, 0, none⟩ = some (.int .i64 0)) :
    CallsD Try.prog 28 #[.pointer (some ⟨bf, 0, none⟩), .pointer (some ⟨bo, 0, none⟩), .pointer (some ⟨bl, 0, none⟩)] u w fun e u' w' => u' = u ∧ (e = .returned (.tuple #[]) ∧ w = w') := by
  go_enter_d Try.func28, Try.ntmps28
  go_wp2
  go_end0
  exact ⟨rfl, rfl⟩

theorem lay_Place1.some_ (u : FrameMode) (w : World) (bf bo bl : Nat) (f : Int) (h0 : f ≠ 0) (vo vl : Value) (hf : w.cell? ⟨bf, 0, none⟩ = some (.int .i64 f)) (ho : w.cell? ⟨bo, 0, none⟩ = some vo) (hl : w.cell? ⟨bl, 0, none⟩ = some vl)
    (fo : w.frozen? ⟨bo, 0, none⟩ = false) (fl : w.frozen? ⟨bl, 0, none⟩ = false) (hne : bo ≠ bl) :
    CallsD Try.prog 28 #[.pointer (some ⟨bf, 0, none⟩), .pointer (some ⟨bo, 0, none⟩), .pointer (some ⟨bl, 0, none⟩)] u w fun e u' w' => u' = u ∧ (e = .returned (.tuple #[]) ∧ (w.setCell ⟨bo, 0, none⟩ (.slice none 0 0)).setCell ⟨bl, 0, none⟩ (.int .i64 0) = w') := by
  have hb : (f != 0) = true := bne_iff_ne.mpr h0
  have hb2 : (f == 0) = false := beq_eq_false_iff_ne.mpr h0
  clear h0
  go_enter_d Try.func28, Try.ntmps28
  go_wp2
  go_end0
  exact ⟨rfl, rfl⟩

/-- The named results in memory: the offsets, the length, the fault. -/
structure PlaceW (w W : World) (bo bl bf : Nat) (vo vl vf : Value) : Prop where
  ho : W.heap[bo]? = some (.cells #[vo] 23 (0, 0))
  hl : W.heap[bl]? = some (.cells #[vl] 3 (0, 0))
  hf : W.heap[bf]? = some (.cells #[vf] 24 (0, 0))
  hb : Below w.heap.size w W
  lo : w.heap.size ≤ bo
  ll : w.heap.size ≤ bl
  lf : w.heap.size ≤ bf
namespace PlaceW
variable {w W W1 : World} {bo bl bf : Nat} {vo vl vf : Value}
theorem n1 (h : PlaceW w W bo bl bf vo vl vf) : bo ≠ bl := blk_ne h.ho h.hl (by decide)
theorem n2 (h : PlaceW w W bo bl bf vo vl vf) : bo ≠ bf := blk_ne h.ho h.hf (by decide)
theorem n3 (h : PlaceW w W bo bl bf vo vl vf) : bl ≠ bf := blk_ne h.hl h.hf (by decide)
theorem setO (h : PlaceW w W bo bl bf vo vl vf) (v : Value) : PlaceW w (W.setCell ⟨bo, 0, none⟩ v) bo bl bf v vl vf :=
  ⟨by simpa using blk_set h.ho 0 v, blk_far h.hl (Ne.symm h.n1) v, blk_far h.hf (Ne.symm h.n2) v, h.hb.setCell (p := ⟨bo, 0, none⟩) h.lo v, h.lo, h.ll, h.lf⟩
theorem setL (h : PlaceW w W bo bl bf vo vl vf) (v : Value) : PlaceW w (W.setCell ⟨bl, 0, none⟩ v) bo bl bf vo v vf :=
  ⟨blk_far h.ho h.n1 v, by simpa using blk_set h.hl 0 v, blk_far h.hf (Ne.symm h.n3) v, h.hb.setCell (p := ⟨bl, 0, none⟩) h.ll v, h.lo, h.ll, h.lf⟩
theorem setF (h : PlaceW w W bo bl bf vo vl vf) (v : Value) : PlaceW w (W.setCell ⟨bf, 0, none⟩ v) bo bl bf vo vl v :=
  ⟨blk_far h.ho h.n2 v, blk_far h.hl h.n3 v, by simpa using blk_set h.hf 0 v, h.hb.setCell (p := ⟨bf, 0, none⟩) h.lf v, h.lo, h.ll, h.lf⟩
theorem below (h : PlaceW w W bo bl bf vo vl vf) (hb : Below W.heap.size W W1) : PlaceW w W1 bo bl bf vo vl vf :=
  ⟨(hb.block bo (blk_lt h.ho)).trans h.ho, (hb.block bl (blk_lt h.hl)).trans h.hl, (hb.block bf (blk_lt h.hf)).trans h.hf, below_step h.hb hb, h.lo, h.ll, h.lf⟩
theorem zo (h : PlaceW w W bo bl bf vo vl vf) : W.cell? ⟨bo, 0, none⟩ = some vo := blk_cell h.ho 0
theorem zl (h : PlaceW w W bo bl bf vo vl vf) : W.cell? ⟨bl, 0, none⟩ = some vl := blk_cell h.hl 0
theorem zf (h : PlaceW w W bo bl bf vo vl vf) : W.cell? ⟨bf, 0, none⟩ = some vf := blk_cell h.hf 0
theorem fo (h : PlaceW w W bo bl bf vo vl vf) : W.frozen? ⟨bo, 0, none⟩ = false := blk_frozen h.ho 0
theorem fl (h : PlaceW w W bo bl bf vo vl vf) : W.frozen? ⟨bl, 0, none⟩ = false := blk_frozen h.hl 0
theorem ff (h : PlaceW w W bo bl bf vo vl vf) : W.frozen? ⟨bf, 0, none⟩ = false := blk_frozen h.hf 0
end PlaceW

theorem place_results {tmps : Array Value} {W : World} {bo bl bf n : Nat} {A : Option Addr} {c : Nat} {l f m : Int} (h4 : tmps.getD 4 undef = .pointer (some ⟨bo, 0, none⟩)) (h5 : tmps.getD 5 undef = .pointer (some ⟨bl, 0, none⟩)) (h6 : tmps.getD 6 undef = .pointer (some ⟨bf, 0, none⟩)) (h7 : tmps.getD 7 undef = .int .i64 m)
    (zo : W.cell? ⟨bo, 0, none⟩ = some (.slice A n c)) (zl : W.cell? ⟨bl, 0, none⟩ = some (.int .i64 l)) (zf : W.cell? ⟨bf, 0, none⟩ = some (.int .i64 f)) :
    (results Try.f11 tmps).run Try.prog W = .ok (.tuple #[.slice A n c, .int .i64 l, .int .i64 f, .int .i64 m]) W := by
  simp only [Array.getD_eq_getD_getElem?] at h4 h5 h6 h7
  simp only [results, Try.results11]
  simp [go_sem, h4, h5, h6, h7, zo, zl, zf]

theorem place_row {w w3 W : World} {bo bl bf : Nat} {v a b c : Value} {l : List Int} (h : Kd.R (Kd.int .i64) 3 W w3.heap.size (fun k => w3.heap.size ≤ k) v l) (h0 : bo < w3.heap.size) (h1 : bl < w3.heap.size) (h2 : bf < w3.heap.size) (hw : w.heap.size ≤ w3.heap.size) :
    Kd.R (Kd.int .i64) 3 (((W.setCell ⟨bo, 0, none⟩ a).setCell ⟨bl, 0, none⟩ b).setCell ⟨bf, 0, none⟩ c) w.heap.size (fun _ => True) v l :=
  Kd.R_mono (Kd.R_lower (Kd.R_far (Kd.R_far (Kd.R_far h (fun k hk e => by subst e; exact absurd h0 (Nat.not_lt.2 hk)) a) (fun k hk e => by subst e; exact absurd h1 (Nat.not_lt.2 hk)) b) (fun k hk e => by subst e; exact absurd h2 (Nat.not_lt.2 hk)) c) hw) (fun _ _ => trivial)

/-- The way out with an error: the deferred closure takes back what has been told. -/
theorem place_bad {w W : World} {bo bl bf : Nat} {vo vl : Value} {f m : Int} {tmps : Array Value} (hp : PlaceW w W bo bl bf vo vl (.int .i64 f)) (hf : f ≠ 0)
    (h4 : tmps.getD 4 undef = .pointer (some ⟨bo, 0, none⟩)) (h5 : tmps.getD 5 undef = .pointer (some ⟨bl, 0, none⟩)) (h6 : tmps.getD 6 undef = .pointer (some ⟨bf, 0, none⟩)) (h7 : tmps.getD 7 undef = .int .i64 m) :
    Leaves Try.prog Try.f11 tmps (fun e w' => ∃ v0_ : Value, e = .returned (.tuple #[v0_, .int .i64 0, .int .i64 f, .int .i64 m]) ∧ Kd.R (Kd.int .i64) 3 w' w.heap.size (fun _ => True) v0_ [] ∧ Below w.heap.size w w')
      [{ target := .fn (.func 28) #[.pointer (some ⟨bf, 0, none⟩), .pointer (some ⟨bo, 0, none⟩), .pointer (some ⟨bl, 0, none⟩)], args := #[] }] .returning W := by
  refine leaves_cons (f := 28) (args := #[.pointer (some ⟨bf, 0, none⟩), .pointer (some ⟨bo, 0, none⟩), .pointer (some ⟨bl, 0, none⟩)]) (by simp) (by simp [go_sem]) ?_
  refine (lay_Place1.some_ .returning W bf bo bl f hf vo vl hp.zf hp.zo hp.zl hp.fo hp.fl hp.n1).mono ?_
  rintro e u' w'' ⟨rfl, rfl, rfl⟩
  have hq := (hp.setO (.slice none 0 0)).setL (.int .i64 0)
  exact ⟨_, place_results h4 h5 h6 h7 hq.zo hq.zl hq.zf, _, rfl, Kd.R_nil _ _ _ _ _, hq.hb⟩
/-- The way out without one. -/
theorem place_good {w W : World} {bo bl bf n c : Nat} {A : Option Addr} {l m : Int} {r : List Int} {tmps : Array Value} (hp : PlaceW w W bo bl bf (.slice A n c) (.int .i64 l) (.int .i64 0)) (hr : Kd.R (Kd.int .i64) 3 W w.heap.size (fun _ => True) (.slice A n c) r)
    (h4 : tmps.getD 4 undef = .pointer (some ⟨bo, 0, none⟩)) (h5 : tmps.getD 5 undef = .pointer (some ⟨bl, 0, none⟩)) (h6 : tmps.getD 6 undef = .pointer (some ⟨bf, 0, none⟩)) (h7 : tmps.getD 7 undef = .int .i64 m) :
    Leaves Try.prog Try.f11 tmps (fun e w' => ∃ v0_ : Value, e = .returned (.tuple #[v0_, .int .i64 l, .int .i64 0, .int .i64 m]) ∧ Kd.R (Kd.int .i64) 3 w' w.heap.size (fun _ => True) v0_ r ∧ Below w.heap.size w w')
      [{ target := .fn (.func 28) #[.pointer (some ⟨bf, 0, none⟩), .pointer (some ⟨bo, 0, none⟩), .pointer (some ⟨bl, 0, none⟩)], args := #[] }] .returning W := by
  refine leaves_cons (f := 28) (args := #[.pointer (some ⟨bf, 0, none⟩), .pointer (some ⟨bo, 0, none⟩), .pointer (some ⟨bl, 0, none⟩)]) (by simp) (by simp [go_sem]) ?_
  refine (lay_Place1.zero .returning W bf bo bl hp.zf).mono ?_
  rintro e u' w'' ⟨rfl, rfl, rfl⟩
  exact ⟨_, place_results h4 h5 h6 h7 hp.zo hp.zl hp.zf, _, rfl, hr, hp.hb⟩

set_option maxHeartbeats 4000000 in
set_option maxRecDepth 100000 in
theorem lay_Place.calls (A0 : Option Addr) (c0 : Nat) (l0 : List S39) (a1 : Int) (r1 : List Int) (r2 r3 r4 : Int) (w : World) (hr0 : Kd.C k39 w A0 l0.length l0) (hc0 : l0.length ≤ c0) (h : lay_Place.f l0 a1 = some (r1, r2, r3, r4)) :
    Calls Try.prog 11 #[.slice A0 l0.length c0, .int .i64 a1] w fun e w' => ∃ v0_ : Value, e = .returned (.tuple #[v0_, .int .i64 r2, .int .i64 r3, .int .i64 r4]) ∧ Kd.R (Kd.int .i64) 3 w' w.heap.size (fun _ => True) v0_ r1 ∧ Below w.heap.size w w' := by
  have HR0 := Aside0.mk hr0
  clear hr0 hc0
  have hu39 := Try.underlying39
  have hu54 := Try.underlying54
  have hmf : ∀ (fn : Fn) (first cap : Array Value) (w : World), (Instr.makeFunc fn first cap).run Try.prog w = .ok (.func fn first cap) w := fun _ _ _ _ => rfl
  unfold lay_Place.f at h
  by_cases hbig : l0.length < 8796093022208
  case neg => rw [if_neg hbig] at h; cases h
  rw [if_pos hbig] at h
  injection h with h
  by_cases ca : a1 < -1
  · rw [if_pos ca] at h
    simp only [Prod.mk.injEq] at h
    obtain ⟨rfl, rfl, rfl, rfl⟩ := h
    go_enter_defers Try.func11, Try.ntmps11
    go_wp2_with (first | ((with_reducible refine gate_dst (N := 4) rfl ?_); refine box_event ?hg (N := 4) ?hd (cs := #[.slice none 0 0]) (t := 23) ?hr ?_; (case hd => rfl); (case hg => rfl); (case hr => first | (go_simp; done) | (go_simp; rfl)); intro bo hgo w1 hbo hb1; have HBO := Aside0.mk hbo; have HB1 := Aside0.mk hb1; have HLO := Aside0.mk (Nat.le_of_eq hgo.symm); clear hgo hbo hb1) | ((with_reducible refine gate_dst (N := 5) rfl ?_); refine box_event ?hg (N := 5) ?hd (cs := #[.int .i64 0]) (t := 3) ?hr ?_; (case hd => rfl); (case hg => rfl); (case hr => first | (go_simp; done) | (go_simp; rfl)); intro bl hgl w2 hbl hb2; have HBL := Aside0.mk hbl; have HB2 := Aside0.mk (below_step HB1.out hb2); have HLL := Aside0.mk (Nat.le_trans HB1.out.size (Nat.le_of_eq hgl.symm)); have HBO2 := Aside0.mk ((hb2.block bo (blk_lt HBO.out)).trans HBO.out); clear hgl hbl hb2 HBO HB1) | ((with_reducible refine gate_dst (N := 6) rfl ?_); refine box_event ?hg (N := 6) ?hd (cs := #[.int .i64 0]) (t := 24) ?hr ?_; (case hd => rfl); (case hg => rfl); (case hr => first | (go_simp; done) | (go_simp; rfl)); intro bf hgf w3 hbf hb3; have HP := Aside0.mk (show PlaceW w w3 bo bl bf (.slice none 0 0) (.int .i64 0) (.int .i64 0) from ⟨(hb3.block bo (blk_lt HBO2.out)).trans HBO2.out, (hb3.block bl (blk_lt HBL.out)).trans HBL.out, hbf, below_step HB2.out hb3, HLO.out, HLL.out, Nat.le_trans HB2.out.size (Nat.le_of_eq hgf.symm)⟩); clear hgf hbf hb3 HBO2 HBL HB2 HLO HLL; have cz0 := HP.out.zo; have cz1 := HP.out.zl; have cz2 := HP.out.zf; have fz0 := HP.out.fo; have fz1 := HP.out.fl; have fz2 := HP.out.ff; have ne1 := HP.out.n1; have ne2 := HP.out.n2; have ne3 := HP.out.n3))
    exact place_bad (((HP.out.setO _).setL _).setF _) (by decide) rfl rfl rfl rfl
  · rw [if_neg ca] at h
    by_cases cb : 65535 < a1
    · rw [if_pos cb] at h
      simp only [Prod.mk.injEq] at h
      obtain ⟨rfl, rfl, rfl, rfl⟩ := h
      go_enter_defers Try.func11, Try.ntmps11
      go_wp2_with (first | ((with_reducible refine gate_dst (N := 4) rfl ?_); refine box_event ?hg (N := 4) ?hd (cs := #[.slice none 0 0]) (t := 23) ?hr ?_; (case hd => rfl); (case hg => rfl); (case hr => first | (go_simp; done) | (go_simp; rfl)); intro bo hgo w1 hbo hb1; have HBO := Aside0.mk hbo; have HB1 := Aside0.mk hb1; have HLO := Aside0.mk (Nat.le_of_eq hgo.symm); clear hgo hbo hb1) | ((with_reducible refine gate_dst (N := 5) rfl ?_); refine box_event ?hg (N := 5) ?hd (cs := #[.int .i64 0]) (t := 3) ?hr ?_; (case hd => rfl); (case hg => rfl); (case hr => first | (go_simp; done) | (go_simp; rfl)); intro bl hgl w2 hbl hb2; have HBL := Aside0.mk hbl; have HB2 := Aside0.mk (below_step HB1.out hb2); have HLL := Aside0.mk (Nat.le_trans HB1.out.size (Nat.le_of_eq hgl.symm)); have HBO2 := Aside0.mk ((hb2.block bo (blk_lt HBO.out)).trans HBO.out); clear hgl hbl hb2 HBO HB1) | ((with_reducible refine gate_dst (N := 6) rfl ?_); refine box_event ?hg (N := 6) ?hd (cs := #[.int .i64 0]) (t := 24) ?hr ?_; (case hd => rfl); (case hg => rfl); (case hr => first | (go_simp; done) | (go_simp; rfl)); intro bf hgf w3 hbf hb3; have HP := Aside0.mk (show PlaceW w w3 bo bl bf (.slice none 0 0) (.int .i64 0) (.int .i64 0) from ⟨(hb3.block bo (blk_lt HBO2.out)).trans HBO2.out, (hb3.block bl (blk_lt HBL.out)).trans HBL.out, hbf, below_step HB2.out hb3, HLO.out, HLL.out, Nat.le_trans HB2.out.size (Nat.le_of_eq hgf.symm)⟩); clear hgf hbf hb3 HBO2 HBL HB2 HLO HLL; have cz0 := HP.out.zo; have cz1 := HP.out.zl; have cz2 := HP.out.zf; have fz0 := HP.out.fo; have fz1 := HP.out.fl; have fz2 := HP.out.ff; have ne1 := HP.out.n1; have ne2 := HP.out.n2; have ne3 := HP.out.n3))
      exact place_bad (((HP.out.setO _).setL _).setF _) (by decide) rfl rfl rfl rfl
    · rw [if_neg cb] at h
      obtain ⟨R0, hR0⟩ : ∃ z, z = placeGo l0 0 [] 0 := ⟨_, rfl⟩
      rw [← hR0] at h
      have HE := Aside0.mk h
      have HR00 := Aside0.mk hR0
      clear h hR0
      go_enter_defers Try.func11, Try.ntmps11
      go_wp2_with (first | ((with_reducible refine gate_dst (N := 4) rfl ?_); refine box_event ?hg (N := 4) ?hd (cs := #[.slice none 0 0]) (t := 23) ?hr ?_; (case hd => rfl); (case hg => rfl); (case hr => first | (go_simp; done) | (go_simp; rfl)); intro bo hgo w1 hbo hb1; have HBO := Aside0.mk hbo; have HB1 := Aside0.mk hb1; have HLO := Aside0.mk (Nat.le_of_eq hgo.symm); clear hgo hbo hb1) | ((with_reducible refine gate_dst (N := 5) rfl ?_); refine box_event ?hg (N := 5) ?hd (cs := #[.int .i64 0]) (t := 3) ?hr ?_; (case hd => rfl); (case hg => rfl); (case hr => first | (go_simp; done) | (go_simp; rfl)); intro bl hgl w2 hbl hb2; have HBL := Aside0.mk hbl; have HB2 := Aside0.mk (below_step HB1.out hb2); have HLL := Aside0.mk (Nat.le_trans HB1.out.size (Nat.le_of_eq hgl.symm)); have HBO2 := Aside0.mk ((hb2.block bo (blk_lt HBO.out)).trans HBO.out); clear hgl hbl hb2 HBO HB1) | ((with_reducible refine gate_dst (N := 6) rfl ?_); refine box_event ?hg (N := 6) ?hd (cs := #[.int .i64 0]) (t := 24) ?hr ?_; (case hd => rfl); (case hg => rfl); (case hr => first | (go_simp; done) | (go_simp; rfl)); intro bf hgf w3 hbf hb3; have HP := Aside0.mk (show PlaceW w w3 bo bl bf (.slice none 0 0) (.int .i64 0) (.int .i64 0) from ⟨(hb3.block bo (blk_lt HBO2.out)).trans HBO2.out, (hb3.block bl (blk_lt HBL.out)).trans HBL.out, hbf, below_step HB2.out hb3, HLO.out, HLL.out, Nat.le_trans HB2.out.size (Nat.le_of_eq hgf.symm)⟩); clear hgf hbf hb3 HBO2 HBL HB2 HLO HLL; have cz0 := HP.out.zo; have cz1 := HP.out.zl; have cz2 := HP.out.zf; have fz0 := HP.out.fo; have fz1 := HP.out.fl; have fz2 := HP.out.ff; have ne1 := HP.out.n1; have ne2 := HP.out.n2; have ne3 := HP.out.n3) | ((with_reducible refine gate_dst (N := 26) rfl ?_); refine box_event ?hg (N := 26) ?hd (cs := #[.slice none 0 0, .int .i64 0]) (t := 54) ?hr ?_; (case hd => rfl); (case hg => rfl); (case hr => first | (go_simp; done) | (go_simp; rfl)); intro g hgx w4 hbox hbw; have HROW := Aside0.mk (show RowS w3 w4 g [] 0 from ⟨none, 0, hbox, Kd.R_nil _ _ _ _ _⟩); have HG := Aside0.mk (Nat.le_of_eq hgx.symm); have HB := Aside0.mk hbw; clear hgx hbox hbw cz0 cz1 cz2 fz0 fz1 fz2 ne1 ne2 ne3))
      go_loopw [31] (fun v wr => ∃ (i : Nat) (l : List Int) (e : Int), v = .int .i64 i ∧ i ≤ l0.length ∧ 0 ≤ e ∧ e ≤ 65535 ∧ Aside0 (l.length = i) ∧ Aside0 (placeGo (l0.drop i) (i : Int) l e = R0) ∧ Aside0 (RowS w3 wr g l e) ∧ Aside0 (Below w3.heap.size w3 wr)) (fun v _ => l0.length - (intOf v).toNat)
      case atStart => exact ⟨0, [], 0, rfl, Nat.zero_le _, by omega, by omega, ⟨rfl⟩, ⟨HR00.out.symm⟩, HROW, HB⟩
      case round =>
        clear HROW HB HR00
        obtain ⟨i, l, e, rfl, hi, he0, he1, HL, HF, HROW, HB⟩ := hrel
        by_cases hlt : i < l0.length
        · obtain ⟨ad, e110, hx0, hx1⟩ := at_T39 (Kd.C_below HR0.out (below_step HP.out.hb HB.out)) (i : Int) (by omega) (by omega)
          cases e110
          rw [Int.toNat_natCast] at hx0 hx1
          have hround := placeGo_round hlt (i : Int) l e
          rw [HF.out] at hround
          generalize rd_T39 l0 ↑i = x at *
          have HRND := Aside0.mk hround
          clear hround
          have hbx : Below w3.heap.size w3 (wr.alloc (Obj.cells #[Value.int IntKind.i64 x.f0, Value.int IntKind.i64 x.f1] 39)) := HB.out.alloc HB.out.size _
          have hrx : RowS w3 (wr.alloc (Obj.cells #[Value.int IntKind.i64 x.f0, Value.int IntKind.i64 x.f1] 39)) g l e := RowS.below HROW.out ((Below.refl _ _).alloc (Nat.le_refl _) _)
          have HBX := Aside0.mk hbx
          have HRX := Aside0.mk hrx
          clear hbx hrx
          by_cases ce : layErr e x = 0
          · have hrnd := HRND.out
            rw [if_pos ce] at hrnd
            have HF' := Aside0.mk hrnd.symm
            have HCE := Aside0.mk ce
            clear hrnd ce HRND
            go_wp2_with (go_at_call 29; refine (row_lay.ok w3 _ g l e x.f0 x.f1 HRX.out HBX.out HG.out (by have := HL.out; omega) he0 he1 HCE.out).mono ?_; rintro _ w5 ⟨rfl, hb5, hrow5⟩)
            go_roundw
            case rel =>
              obtain ⟨z0, z1, z2, z3, z4⟩ := layErr_zero HCE.out
              have z5 : 0 ≤ layAt e x := by
                unfold layAt
                split
                · exact he0
                · have z1' : -1 ≤ x.f1 := z1
                  omega
              have z3' : layAt e x ≤ 65535 := z3
              have z4' : x.f0 ≤ 65535 - layAt e x := z4
              have z0' : 0 ≤ x.f0 := z0
              exact ⟨i + 1, l ++ [layAt e x], layAt e x + x.f0, by go_num, by omega, by omega, by omega, ⟨by simp [HL.out]⟩, ⟨HF'.out⟩, ⟨hrow5⟩, ⟨hb5⟩⟩
            case measure => simp [intOf]; omega
          · have hrnd := HRND.out
            rw [if_neg ce] at hrnd
            have he := HE.out
            rw [hrnd] at he
            simp only [placeEnd, Prod.mk.injEq] at he
            obtain ⟨rfl, rfl, rfl, rfl⟩ := he
            have HCE := Aside0.mk ce
            have hne : (layErr e x != 0) = true := bne_iff_ne.mpr ce
            have hne2 : (layErr e x == 0) = false := beq_eq_false_iff_ne.mpr ce
            clear hrnd ce HRND HE
            go_wp2_with (go_at_call 29; refine (row_lay.bad w3 _ g l e x HRX.out he0 he1 HCE.out).mono ?_; rintro _ w5 ⟨rfl, hb5⟩)
            have HB5 := Aside0.mk (below_step HBX.out hb5)
            have HP5 := Aside0.mk (HP.out.below HB5.out)
            obtain ⟨A, c, hrow5, _⟩ := RowS.below HRX.out hb5
            have cz0 := HP5.out.zo
            have cz1 := HP5.out.zl
            have cz2 := HP5.out.zf
            have fz0 := HP5.out.fo
            have fz1 := HP5.out.fl
            have fz2 := HP5.out.ff
            have ne1 := HP5.out.n1
            have ne2 := HP5.out.n2
            have ne3 := HP5.out.n3
            have cr0 : w5.cell? ⟨g, 0, none⟩ = some (.slice A l.length c) := blk_cell hrow5 0
            have cr1 : w5.cell? ⟨g, 1, none⟩ = some (.int .i64 e) := blk_cell hrow5 1
            have ng0 : bo ≠ g := blk_ne HP5.out.ho hrow5 (by decide)
            have ng1 : bl ≠ g := blk_ne HP5.out.hl hrow5 (by decide)
            have ng2 : bf ≠ g := blk_ne HP5.out.hf hrow5 (by decide)
            clear hrow5 hb5
            go_region
            go_wp2
            exact place_bad ((((HP5.out.below (below_drew (Below.refl _ _))).setO _).setL _).setF _) HCE.out rfl rfl rfl rfl
        · have hii : i = l0.length := by omega
          have hf := HF.out
          rw [hii, List.drop_length] at hf
          simp only [placeGo] at hf
          have he := HE.out
          rw [← hf] at he
          simp only [placeEnd] at he
          have HP5 := Aside0.mk (HP.out.below HB.out)
          obtain ⟨A, c, hrow5, hRr⟩ := HROW.out
          have HRR := Aside0.mk (Kd.R_mono (Kd.R_bound hRr) (ok' := fun k => w3.heap.size ≤ k) (fun _ hk => hk.2.1))
          have cz0 := HP5.out.zo
          have cz1 := HP5.out.zl
          have cz2 := HP5.out.zf
          have fz0 := HP5.out.fo
          have fz1 := HP5.out.fl
          have fz2 := HP5.out.ff
          have ne1 := HP5.out.n1
          have ne2 := HP5.out.n2
          have ne3 := HP5.out.n3
          have cr0 : wr.cell? ⟨g, 0, none⟩ = some (.slice A l.length c) := blk_cell hrow5 0
          have cr1 : wr.cell? ⟨g, 1, none⟩ = some (.int .i64 e) := blk_cell hrow5 1
          have ng0 : bo ≠ g := blk_ne HP5.out.ho hrow5 (by decide)
          have ng1 : bl ≠ g := blk_ne HP5.out.hl hrow5 (by decide)
          have ng2 : bf ≠ g := blk_ne HP5.out.hf hrow5 (by decide)
          have HII := Aside0.mk hii
          clear hrow5 hf hii hRr
          generalize wr = w5 at *
          by_cases c1 : a1 = -1
          · rw [if_pos c1] at he
            simp only [Prod.mk.injEq] at he
            obtain ⟨rfl, rfl, rfl, rfl⟩ := he
            subst c1
            clear HE HF
            go_wp2
            exact place_good (((HP5.out.setO _).setL _).setF _) (place_row HRR.out (blk_lt HP.out.ho) (blk_lt HP.out.hl) (blk_lt HP.out.hf) HP.out.hb.size) rfl rfl rfl rfl
          · rw [if_neg c1] at he
            have c1b : (a1 == -1) = false := beq_eq_false_iff_ne.mpr c1
            by_cases c2 : a1 < e
            · rw [if_pos c2] at he
              simp only [Prod.mk.injEq] at he
              obtain ⟨rfl, rfl, rfl, rfl⟩ := he
              clear c1 HE HF
              go_wp2
              go_region
              go_wp2
              exact place_bad ((((HP5.out.below (below_drew (Below.refl _ _))).setO _).setL _).setF _) (by decide) rfl rfl rfl rfl
            · rw [if_neg c2] at he
              simp only [Prod.mk.injEq] at he
              obtain ⟨rfl, rfl, rfl, rfl⟩ := he
              clear c1 HE HF
              go_wp2
              exact place_good (((HP5.out.setO _).setL _).setF _) (place_row HRR.out (blk_lt HP.out.ho) (blk_lt HP.out.hl) (blk_lt HP.out.hf) HP.out.hb.size) rfl rfl rfl rfl

end Go.Proofs.Ythckejcoekhdjaa.Q
