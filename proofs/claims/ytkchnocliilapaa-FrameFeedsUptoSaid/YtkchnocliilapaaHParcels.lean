/- The whole frames at a framer's front (layer 24), by hand: parcels takes them off. -/

import Derived.Test.YtkchnocliilapaaQx0
import Derived.Test.YtkchnocliilapaaHHeld
import Derived.StillTailTactics
import Derived.Deep.RegionLaw
import Derived.Deep.AppendLies
namespace Go.Proofs.Ytkchnocliilapaa.Q
open Go.RowKit Go.Proofs.YtkchnocliilapaaW.PrintWords Go.Proofs.YtkchnocliilapaaW.PrintLast Go.Proofs.YtkchnocliilapaaW.PrintMore
attribute [local go_sem] max2_int min2_int max_two min_two max_three min_three max_four min_four   -- for this text's walks alone
set_option linter.unusedVariables false
set_option linter.unusedSimpArgs false

/-- A framer in memory: its bytes lie in block bb. -/
def FrS (w : World) (g bb : Nat) (bs : List Int) (lim ref : Int) : Prop :=
  ∃ A c, w.heap[g]? = some (.cells #[.slice A bs.length c, .int .i64 lim, .int .i64 ref] 62 (0, 0)) ∧ Kd.C (Kd.int .u8) w A bs.length bs ∧ bs.length ≤ c ∧ (∀ a, A = some a → a.block = bb) ∧ bb < w.heap.size ∧ bb ≠ g
theorem C_block {w w1 : World} {A : Option Addr} {n bb : Nat} {bs : List Int} (h : Kd.C (Kd.int .u8) w A n bs) (hA : ∀ a, A = some a → a.block = bb) (hk : w1.heap[bb]? = w.heap[bb]?) : Kd.C (Kd.int .u8) w1 A n bs := by
  refine ⟨h.1, h.2.1, fun hp => ?_⟩
  obtain ⟨ad, rfl, hc⟩ := h.2.2 hp
  refine ⟨ad, rfl, fun j p hj => ?_⟩
  obtain ⟨c, h1, h2, h3⟩ := hc j p hj
  refine ⟨c, h1, ?_, fun i u hu => ?_⟩
  · exact h2
  · rw [← h3 i u hu]
    have hb : (ad.add (j * (Kd.int .u8).sz + i)).block = bb := by rw [add_block]; exact hA ad rfl
    exact World.cell?_of_block (by rw [hb]; exact hk)
theorem FrS.keep {w w1 : World} {g bb : Nat} {bs : List Int} {lim ref : Int} (h : FrS w g bb bs lim ref) (h1 : w1.heap[g]? = w.heap[g]?) (h2 : w1.heap[bb]? = w.heap[bb]?) (hs : w.heap.size ≤ w1.heap.size) : FrS w1 g bb bs lim ref := by
  obtain ⟨A, c, a, b, d, e, f, i⟩ := h
  exact ⟨A, c, h1.trans a, C_block b e h2, d, e, Nat.lt_of_lt_of_le f hs, i⟩
theorem FrS.lt {w : World} {g bb : Nat} {bs : List Int} {lim ref : Int} (h : FrS w g bb bs lim ref) : g < w.heap.size := by
  obtain ⟨A, c, a, _⟩ := h
  exact blk_lt a

/-- The whole frames at the front, and what is left. -/
def parcelsF (lim : Int) : Nat → List Int → List S23 → List S23 × List Int
  | 0, bs, acc => (acc, bs)
  | f + 1, bs, acc => if lookF lim bs = 1 then parcelsF lim f (bs.drop (numL (bs.take 4)).toNat) (acc ++ [⟨numL ((bs.take 6).drop 4), strOfNums ((bs.take (numL (bs.take 4)).toNat).drop 6)⟩]) else (acc, bs)
theorem parcelsF_acc (lim : Int) : ∀ (f : Nat) (bs : List Int) (acc : List S23), acc.length ≤ (parcelsF lim f bs acc).1.length
  | 0, bs, acc => Nat.le_refl _
  | f + 1, bs, acc => by
    rw [parcelsF]
    split
    · exact Nat.le_trans (by simp) (parcelsF_acc lim f _ _)
    · exact Nat.le_refl _
theorem parcelsF_count (lim : Int) : ∀ (f : Nat) (bs : List Int) (acc : List S23), (parcelsF lim f bs acc).1.length ≤ acc.length + f
  | 0, bs, acc => Nat.le_refl _
  | f + 1, bs, acc => by
    rw [parcelsF]
    split
    · exact Nat.le_trans (parcelsF_count lim f _ _) (by rw [List.length_append, List.length_singleton]; omega)
    · show acc.length ≤ _; omega
theorem look_one {lim : Int} {bs : List Int} (h : lookF lim bs = 1) : 6 ≤ numL (bs.take 4) ∧ numL (bs.take 4) ≤ bs.length ∧ 6 ≤ bs.length ∧ numL (bs.take 4) ≤ lim ∧ (numL ((bs.take 6).drop 4) == 23520 || numL ((bs.take 6).drop 4) == 60240) = true := by
  unfold lookF at h
  by_cases c1 : bs.length < 4
  · rw [if_pos c1] at h; cases h
  · rw [if_neg c1] at h
    by_cases c2 : numL (bs.take 4) < 6 ∨ lim < numL (bs.take 4)
    · rw [if_pos c2] at h; cases h
    · rw [if_neg c2] at h
      by_cases c3 : bs.length < 6
      · rw [if_pos c3] at h; cases h
      · rw [if_neg c3] at h
        split at h
        · rename_i hk
          by_cases c4 : (bs.length : Int) < numL (bs.take 4)
          · rw [if_pos c4] at h; cases h
          · exact ⟨by omega, by omega, by omega, by omega, hk⟩
        · cases h

theorem blk_far' (w : World) {g bb j : Nat} (hne : bb ≠ g) (v : Value) : (w.setCell ⟨g, j, none⟩ v).heap[bb]? = w.heap[bb]? := Below.heap_setCell w ⟨g, j, none⟩ v bb hne
theorem FrS.dropped {w : World} {g bb c m : Nat} {A : Option Addr} {bs : List Int} {lim ref : Int} (hblk : w.heap[g]? = some (.cells #[.slice A bs.length c, .int .i64 lim, .int .i64 ref] 62 (0, 0))) (hC : Kd.C (Kd.int .u8) w A bs.length bs) (hc : bs.length ≤ c) (hA : ∀ a, A = some a → a.block = bb) (hbb : bb < w.heap.size) (hne : bb ≠ g) (hm : m ≤ bs.length) (A' : Option Addr) (hA'' : A' = if c = m then A else A.map (·.add m)) :
    FrS (w.setCell ⟨g, 0, none⟩ (.slice A' (bs.length - m) (c - m))) g bb (bs.drop m) lim ref := by
  subst hA''
  have hd := Kd.C_drop hC hm hc
  have hsz1 : (Kd.int .u8).sz = 1 := rfl
  rw [hsz1, Nat.mul_one] at hd
  have hA' : ∀ a, (if c = m then A else A.map (·.add m)) = some a → a.block = bb := by
    intro a ha
    split at ha
    · exact hA a ha
    · cases A with
      | none => cases ha
      | some x => injection ha with ha; subst ha; rw [add_block]; exact hA x rfl
  refine ⟨_, c - m, ?_, C_block hd hA' (blk_far' w hne _), by rw [List.length_drop]; omega, hA', by simpa using hbb, hne⟩
  have z := blk_set hblk 0 (.slice (if c = m then A else A.map (·.add m)) (bs.length - m) (c - m))
  rw [List.length_drop]
  simpa using z
theorem kept_grown {w w1 w2 : World} {g : Nat} {row : Option Nat} (h : Kept w w1 (fun k => k = g)) (hg : w1.grownBy w2 row) (hr : ∀ k, row = some k → w.heap.size ≤ k) : Kept w w2 (fun k => k = g) :=
  ⟨Nat.le_trans h.1 hg.size, fun i hi hne => (hg.block i (Nat.lt_of_lt_of_le hi h.1) (fun e => by have := hr i e.symm; omega)).trans (h.2 i hi hne)⟩
theorem kept_setg {w w1 : World} {g : Nat} (h : Kept w w1 (fun k => k = g)) (j : Nat) (v : Value) : Kept w (w1.setCell ⟨g, j, none⟩ v) (fun k => k = g) :=
  ⟨by simpa using h.1, fun i hi hne => (Below.heap_setCell w1 ⟨g, j, none⟩ v i hne).trans (h.2 i hi hne)⟩

set_option maxHeartbeats 2000000 in
set_option maxRecDepth 100000 in
theorem Framer_parcels.calls (w0 w : World) (g bb : Nat) (lim ref : Int) (bs : List Int) (hF : FrS w g bb bs lim ref) (hb : ∀ b ∈ bs, 0 ≤ b ∧ b < 256) (hB : Below w0.heap.size w0 w) (hg : w0.heap.size ≤ g) (hl : (parcelsF lim bs.length bs []).1.length < 1000000000000) (hl2 : bs.length < 1000000000000000) :
    Calls Try.prog 25 #[.pointer (some ⟨g, 0, none⟩)] w fun e w' => ∃ v, e = .returned v ∧ Kd.R k23 23 w' w0.heap.size (fun k => k ≠ bb ∧ k ≠ g ∧ w.heap.size ≤ k) v (parcelsF lim bs.length bs []).1 ∧ FrS w' g bb (parcelsF lim bs.length bs []).2 lim ref ∧ Below w0.heap.size w0 w' ∧ Kept w w' (fun k => k = g) := by
  obtain ⟨res, hres⟩ : ∃ r, r = parcelsF lim bs.length bs [] := ⟨_, rfl⟩
  rw [← hres] at hl ⊢
  have HL2 := Aside0.mk hl2
  clear hl2
  have HF := Aside0.mk hF
  have HBY := Aside0.mk hb
  have HB := Aside0.mk hB
  have HG := Aside0.mk hg
  have HR := Aside0.mk hres.symm
  have HL := Aside0.mk hl
  clear hF hb hB hg hres hl
  go_enter Try.func25, Try.ntmps25
  go_wp2
  go_loopg [3] bs.length (fun kq v3 wr => ∃ (bs' : List Int) (acc : List S23), Aside0 (parcelsF lim kq bs' acc = res) ∧ Aside0 (bs'.length ≤ kq) ∧ Aside0 (bs'.length ≤ bs.length) ∧ Aside0 (∀ b ∈ bs', 0 ≤ b ∧ b < 256) ∧ Aside0 (FrS wr g bb bs' lim ref) ∧ Aside0 (Kd.R k23 23 wr w0.heap.size (fun k => k ≠ bb ∧ k ≠ g ∧ w.heap.size ≤ k) v3 acc) ∧ Aside0 (Below w0.heap.size w0 wr) ∧ Aside0 (Kept w wr (fun k => k = g)))
  case atStart => exact ⟨bs, [], HR, ⟨Nat.le_refl _⟩, ⟨Nat.le_refl _⟩, HBY, HF, ⟨Kd.R_nil _ _ _ _ _⟩, HB, ⟨⟨Nat.le_refl _, fun _ _ _ => rfl⟩⟩⟩
  case round =>
    clear HR HBY HB
    obtain ⟨bs', acc, HA, HK, HLN, HY, HF', HO, HB', HKP⟩ := hrel
    obtain ⟨A, c, hblk, hC, hc, hA, hbb, hne⟩ := HF'.out
    have h0 : wr.cell? ⟨g, 0, none⟩ = some (.slice A bs'.length c) := blk_cell hblk 0
    have h1 : wr.cell? ⟨g, 1, none⟩ = some (.int .i64 lim) := blk_cell hblk 1
    have hlook := Framer_look.calls wr g A c lim bs' h0 h1 hc hC HY.out
    by_cases hq : lookF lim bs' = 1
    · rw [hq] at hlook
      have HLK := Aside0.mk hlook
      obtain ⟨q1, q2, q3, q4, q5⟩ := look_one hq
      cases gk with
      | zero => have := HK.out; omega
      | succ k1 =>
        have hA1 := HA.out
        rw [parcelsF, if_pos hq] at hA1
        obtain ⟨kn, hkn⟩ := Int.eq_ofNat_of_zero_le (show 0 ≤ numL (bs'.take 4) by omega)
        rw [hkn, Int.toNat_natCast] at hA1
        rw [hkn] at q1 q2 q4
        have hn4 := fun (m : Nat) => number04 (wr.drewN m) g A c bs' h0 hc hC HY.out (by omega)
        rw [hkn] at hn4
        have HN4 := Aside0.mk hn4
        have HQ := Aside0.mk hA1
        have q1' : 6 ≤ kn := by omega
        have q2' : kn ≤ bs'.length := by omega
        clear hlook hn4 hA1 hkn HA
        have HBLK := Aside0.mk hblk
        have HC := Aside0.mk hC
        have HCC := Aside0.mk hc
        have HAB := Aside0.mk hA
        have HBB := Aside0.mk hbb
        have HNE := Aside0.mk hne
        clear hblk hC hc hA hbb hne h1 hq q4 q5 q1 q2
        go_wp2_with (first | (go_at_call 33; (with_reducible refine HLK.out.mono ?_); rintro e w1 ⟨rfl, ⟨m1, rfl⟩⟩) | (go_at_call 32; (with_reducible refine (HN4.out _).mono ?_); rintro e w1 ⟨rfl, rfl⟩))
        obtain ⟨A3, c3, rfl⟩ := Kd.R_slice HO.out
        have FBLK : Aside0 ((wr.drewN m1).heap[g]? = some (.cells #[.slice A bs'.length c, .int .i64 lim, .int .i64 ref] 62 (0, 0))) := ⟨HBLK.out⟩
        have FC : Aside0 (Kd.C (Kd.int .u8) (wr.drewN m1) A bs'.length bs') := ⟨Kd.C_drewN HC.out _⟩
        have FBB : Aside0 (bb < (wr.drewN m1).heap.size) := ⟨HBB.out⟩
        have FO : Aside0 (Kd.R k23 23 (wr.drewN m1) w0.heap.size (fun k => k ≠ bb ∧ k ≠ g ∧ w.heap.size ≤ k) (.slice A3 acc.length c3) acc) := ⟨Kd.R_drewN HO.out _⟩
        have FB : Aside0 (Below w0.heap.size w0 (wr.drewN m1)) := ⟨pw_below_drewN HB'.out _⟩
        have FK : Aside0 (Kept w (wr.drewN m1) (fun k => k = g)) := ⟨HKP.out⟩
        clear HBLK HC HBB HO HB' HKP HF' HN4 HLK h0
        generalize wr.drewN m1 = w2 at *
        have hcell : ({ w2 with drawn := w2.drawn + 1 } : World).cell? ⟨g, 0, none⟩ = some (.slice A bs'.length c) := blk_cell FBLK.out 0
        have hnum : Calls Try.prog 32 #[.pointer (some ⟨g, 0, none⟩), .int .i64 4, .int .i64 2] { w2 with drawn := w2.drawn + 1 } (fun e w' => e = .returned (.int .i64 (numL ((bs'.take 6).drop 4))) ∧ w' = { w2 with drawn := w2.drawn + 1 }) := (number42 { w2 with drawn := w2.drawn + 1 } g A c bs' hcell HCC.out (Kd.C_drew FC.out) HY.out q3).mono (fun e w' h => ⟨h.1, h.2.symm⟩)
        have hm := Kd.C_mid FC.out (lo := 6) (hi := kn) q1' q2' HCC.out
        obtain ⟨i0, hi0, _, hsz, _⟩ := info_parts info5
        have cut := cut_mid (P := Try.prog) 45 5 .i64 .i64 Try.underlying45 hi0 1 hsz A bs'.length c 6 (kn : Int) (by omega) (by omega) (by omega) HCC.out
        have hsz1 : (Kd.int .u8).sz = 1 := rfl
        have e6 : (6 : Int).toNat = 6 := rfl
        rw [e6, Int.toNat_natCast, Nat.mul_one] at cut
        rw [hsz1, Nat.mul_one] at hm
        generalize (if c = 6 then A else A.map (·.add 6)) = A6 at cut hm
        have hml : ((bs'.take kn).drop 6).length = kn - 6 := by simp; omega
        rw [hml] at hm
        have hstr := Kd.C_string (P := Try.prog) (c := c - 6) Try.underlying45 Try.underlying5 Try.underlying9 (show Kd.C (Kd.int .u8) w2.drew A6 (kn - 6) ((bs'.take kn).drop 6) from Kd.C_drew hm)
        have HNUM := Aside0.mk hnum
        have q2'' := q2'
        have q1'' := q1'
        clear hi0 hsz hsz1 e6 hm hml hnum q1' q2'
        have hcell2 : w2.cell? ⟨g, 0, none⟩ = some (.slice A bs'.length c) := blk_cell FBLK.out 0
        have hcellD : w2.drew.cell? ⟨g, 0, none⟩ = some (.slice A bs'.length c) := blk_cell FBLK.out 0
        have hnumD := number42 w2.drew g A c bs' hcellD HCC.out (Kd.C_drew FC.out) HY.out q3
        have HND := Aside0.mk hnumD
        clear hnumD
        have GBLK : Aside0 (w2.drew.heap[g]? = some (.cells #[.slice A bs'.length c, .int .i64 lim, .int .i64 ref] 62 (0, 0))) := ⟨FBLK.out⟩
        have GC : Aside0 (Kd.C (Kd.int .u8) w2.drew A bs'.length bs') := ⟨Kd.C_drew FC.out⟩
        have GBB : Aside0 (bb < w2.drew.heap.size) := ⟨FBB.out⟩
        have GO : Aside0 (Kd.R k23 23 w2.drew w0.heap.size (fun k => k ≠ bb ∧ k ≠ g ∧ w.heap.size ≤ k) (.slice A3 acc.length c3) acc) := ⟨Kd.R_drew FO.out⟩
        have GB : Aside0 (Below w0.heap.size w0 w2.drew) := ⟨below_drew FB.out⟩
        have GK : Aside0 (Kept w w2.drew (fun k => k = g)) := ⟨FK.out⟩
        clear FBLK FC FBB FO FB FK
        obtain ⟨A9, hA9⟩ : ∃ A9 : Option Addr, A9 = if c = kn then A else A.map (·.add kn) := ⟨_, rfl⟩
        have HA9 := Aside0.mk hA9
        clear hA9
        have hal : acc.length < 1000000000000 := by have h1 := parcelsF_acc lim k1 (bs'.drop kn) (acc ++ [⟨numL ((bs'.take 6).drop 4), strOfNums ((bs'.take kn).drop 6)⟩]); rw [HQ.out, List.length_append, List.length_singleton] at h1; have := HL.out; omega
        go_region_law (first | (refine Kd.R_append_step k23 (w0 := w0) (W := w2.drew) w0.heap.size (by simp [Region.wanted]) (.tmp 12) (.tmp 26) 24 23 (.agg #[(.int .i64 0), (.string ByteArray.empty)]) 24 rfl Try.underlying24 info23 rfl (by decide) (by omega) (.slice A3 acc.length c3) acc (⟨numL ((bs'.take 6).drop 4), strOfNums ((bs'.take kn).drop 6)⟩ : S23) [.int .i64 (numL ((bs'.take 6).drop 4)), .string (strOfNums ((bs'.take kn).drop 6))] (fun k => k ≠ bb ∧ k ≠ g ∧ w.heap.size ≤ k) (fun _ => False) rfl rfl (k23_mkM _ _ _ (⟨numL ((bs'.take 6).drop 4), strOfNums ((bs'.take kn).drop 6)⟩ : S23)) (fun _ hk => hk.elim) (fun k hk => ⟨Nat.ne_of_gt (Nat.lt_of_lt_of_le GBB.out hk), Nat.ne_of_gt (Nat.lt_of_lt_of_le (blk_lt GBLK.out) hk), Nat.le_trans GK.out.1 hk⟩) GO.out GB.out GB.out.size (by omega) ?_; intro v4 w4 ho hb4 hg4 hat4; have HO4 := Aside0.mk ho; have HB4 := Aside0.mk hb4; have HBLK4 := Aside0.mk ((hg4.block g (blk_lt GBLK.out) (fun e => (GO.out.1 g e.symm).2.1 rfl)).trans GBLK.out); have HBB4 := Aside0.mk (Nat.lt_of_lt_of_le GBB.out hg4.size); have HC4 := Aside0.mk (C_block GC.out HAB.out (hg4.block bb GBB.out (fun e => (GO.out.1 bb e.symm).1 rfl))); have HK4 := Aside0.mk (kept_grown GK.out hg4 (fun k hk => (GO.out.1 k hk).2.2)); clear ho hb4 hg4 hat4) | (go_simp; go_at_call 32; (with_reducible refine HND.out.mono ?_); rintro e w5 ⟨rfl, rfl⟩))
        all_goals
          clear GBLK GC GBB GO GB GK
          have hc4 : w4.cell? ⟨g, 0, none⟩ = some (.slice A bs'.length c) := blk_cell HBLK4.out 0
          have hf4 : w4.frozen? ⟨g, 0, none⟩ = false := blk_frozen HBLK4.out 0
          go_wp2_with ((go_at_call 34; (with_reducible refine (held_drop.calls w4 g A bs'.length c kn hc4 hf4 q2'' HCC.out A9 HA9).mono ?_); rintro e w5 ⟨rfl, rfl⟩))
          go_roundg k1
          case measure => omega
          case rel =>
            refine ⟨bs'.drop kn, acc ++ [⟨numL ((bs'.take 6).drop 4), strOfNums ((bs'.take kn).drop 6)⟩], ⟨HQ.out⟩, ⟨by have := HK.out; rw [List.length_drop]; omega⟩, ⟨by have := HLN.out; rw [List.length_drop]; omega⟩, ⟨fun b hb => HY.out b (List.mem_of_mem_drop hb)⟩, ⟨FrS.dropped HBLK4.out HC4.out HCC.out HAB.out HBB4.out HNE.out q2'' A9 HA9.out⟩, ⟨Kd.R_far HO4.out (fun k hk => hk.2.1) _⟩, ⟨HB4.out.setCell HG.out _⟩, ⟨kept_setg HK4.out 0 _⟩⟩
    · have hne : (lookF lim bs' == 1) = false := beq_eq_false_iff_ne.2 hq
      have HLK := Aside0.mk hlook
      have hA1 : (acc, bs') = res := by
        have := HA.out
        cases gk with
        | zero => simpa [parcelsF] using this
        | succ k1 => rw [parcelsF, if_neg hq] at this; exact this
      subst hA1
      have FO : Aside0 (Kd.R k23 23 wr w0.heap.size (fun k => k ≠ bb ∧ k ≠ g ∧ w.heap.size ≤ k) u3 acc) := HO
      clear hq hlook hblk hC hc hA hbb h0 h1
      go_wp2_with (first | (go_at_call 33; (with_reducible refine HLK.out.mono ?_); rintro e w1 ⟨rfl, ⟨m1, rfl⟩⟩))
      go_ret
      exact ⟨_, rfl, Kd.R_drewN FO.out _, HF'.out.keep rfl rfl (Nat.le_refl _), pw_below_drewN HB'.out _, HKP.out⟩

end Go.Proofs.Ytkchnocliilapaa.Q
