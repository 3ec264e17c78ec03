/- What a framer holds (layer 24), by hand: its size, the number in some of its bytes, and what is left where the first ones go. -/

import Derived.Test.YtkchnocliilapaaQx0
import Derived.Test.YtkchnocliilapaaQx2
import Derived.IntWalk
import Derived.Lib.EndianBits
namespace Go.Proofs.Ytkchnocliilapaa.Q
open Go.RowKit Go.Proofs.YtkchnocliilapaaW.PrintWords Go.Proofs.YtkchnocliilapaaW.PrintLast Go.Proofs.YtkchnocliilapaaW.PrintMore
attribute [local go_sem] max2_int min2_int max_two min_two max_three min_three max_four min_four   -- for this text's walks alone
set_option linter.unusedVariables false
set_option linter.unusedSimpArgs false

/-- The number in a row of bytes, the highest first. -/
def numL (l : List Int) : Int := l.foldl (fun x c => x * 256 + c) 0
theorem numL_snoc (l : List Int) (c : Int) : numL (l ++ [c]) = numL l * 256 + c := by simp [numL]
theorem numL_bound : ∀ (n : Nat) (l : List Int), l.length = n → (∀ b ∈ l, 0 ≤ b ∧ b < 256) → 0 ≤ numL l ∧ numL l < 256 ^ n
  | 0, l, h, _ => by obtain rfl := List.eq_nil_of_length_eq_zero h; simp [numL]
  | n + 1, l, h, hb => by
    have hl : l ≠ [] := by rintro rfl; simp at h
    rw [← List.dropLast_concat_getLast hl]
    have h1 := numL_bound n l.dropLast (by simp [h]) (fun b hx => hb b (List.dropLast_subset l hx))
    have h2 := hb (l.getLast hl) (List.getLast_mem hl)
    rw [numL_snoc, Int.pow_succ]
    generalize (256 : Int) ^ n = p at *
    omega
theorem or8 {x y : Int} (hx₀ : 0 ≤ x) (hx₁ : x < 1099511627776) (hx : x % 256 = 0) (h₀ : 0 ≤ y) (h₁ : y < 256) : bits .or .i64 x y = x + y :=
  bits_join .i64 40 (by decide) (fun n h0 h1 => by rw [IntKind.wrap_i64]; omega) 8 x y hx₀ hx hx₁ h₀ h₁ (by omega)

/-- A framer in memory. -/
def FrW (w : World) (g : Nat) (A : Option Addr) (n c : Nat) (lim ref : Int) : Prop := w.heap[g]? = some (.cells #[.slice A n c, .int .i64 lim, .int .i64 ref] 62 (0, 0))

theorem held_size.calls (w : World) (g : Nat) (A : Option Addr) (n c : Nat) (h0 : w.cell? ⟨g, 0, none⟩ = some (.slice A n c)) :
    Calls Try.prog 26 #[.pointer (some ⟨g, 0, none⟩)] w fun e w' => e = .returned (.int .i64 n) ∧ w = w' := by
  go_enter Try.func26, Try.ntmps26
  go_wp2
  go_ret
  exact ⟨rfl, rfl⟩

set_option maxHeartbeats 1000000 in
theorem held_number.calls (w : World) (g : Nat) (A : Option Addr) (n c : Nat) (bs : List Int) (a k : Nat) (h0 : w.cell? ⟨g, 0, none⟩ = some (.slice A n c)) (hn : n = bs.length) (hc : n ≤ c) (hC : Kd.C (Kd.int .u8) w A n bs) (hak : a + k ≤ n) (hk : k ≤ 4) (hb : ∀ b ∈ bs, 0 ≤ b ∧ b < 256) :
    Calls Try.prog 32 #[.pointer (some ⟨g, 0, none⟩), .int .i64 a, .int .i64 k] w fun e w' => e = .returned (.int .i64 (numL ((bs.take (a + k)).drop a))) ∧ w = w' := by
  subst hn
  have hm := Kd.C_mid hC (lo := a) (hi := a + k) (by omega) hak hc
  have hlen := hC.2.1
  obtain ⟨i0, hi0, _, hsz, _⟩ := info_parts info5
  have cut := cut_mid (P := Try.prog) 45 5 .i64 .i64 Try.underlying45 hi0 1 hsz A bs.length c (a : Int) ((a : Int) + k) (by omega) (by omega) (by omega) hc
  have e1 : ((a : Int) + k).toNat = a + k := by omega
  rw [e1, Int.toNat_natCast, Nat.add_sub_cancel_left, Nat.mul_one] at cut
  have hsz1 : (Kd.int .u8).sz = 1 := rfl
  rw [hsz1, Nat.mul_one] at hm
  generalize (if c = a then A else A.map (·.add a)) = A' at cut hm
  obtain ⟨l, hl⟩ : ∃ l, l = (bs.take (a + k)).drop a := ⟨_, rfl⟩
  have hlk : l.length = k := by rw [hl]; simp; omega
  have hlb : ∀ b ∈ l, 0 ≤ b ∧ b < 256 := fun b hx => hb b (List.mem_of_mem_take (List.mem_of_mem_drop (hl ▸ hx)))
  rw [← hl] at hm ⊢
  have HM := Aside0.mk hm
  have HL := Aside0.mk hl
  have HLK := Aside0.mk hlk
  have HLB := Aside0.mk hlb
  clear hi0 hsz hsz1 e1 hm hl hlk hlb hC hb
  go_enter Try.func32, Try.ntmps32
  go_wp2
  go_loop [7, 20] (fun x i => ∃ j : Nat, j ≤ k ∧ i = .int .i64 j ∧ x = .int .i64 (numL (l.take j))) (fun _ i => k - (intOf i).toNat)
  case atStart => exact ⟨0, Nat.zero_le _, rfl, rfl⟩
  case round =>
    obtain ⟨j, hj, rfl, rfl⟩ := hrel
    by_cases hlt : j < k
    · have hjl : j < l.length := by rw [HLK.out]; exact hlt
      obtain ⟨ad, rfl, hcell⟩ := Kd.at_int HM.out (j : Int) (by omega) (by omega)
      simp only [Int.toNat_natCast] at hcell
      have hr : rd l (j : Int) = l[j] := by simp [rd, List.getD_eq_getElem?_getD, List.getElem?_eq_getElem hjl]
      have hv := HLB.out _ (List.getElem_mem hjl)
      have hx := numL_bound j (l.take j) (by rw [List.length_take]; omega) (fun b hb => HLB.out b (List.mem_of_mem_take hb))
      have hp : (256 : Int) ^ j ≤ 16777216 := by
        have : j = 0 ∨ j = 1 ∨ j = 2 ∨ j = 3 := by omega
        rcases this with h | h | h | h <;> subst h <;> decide
      have hs : numL (l.take (j + 1)) = numL (l.take j) * 256 + l[j] := by rw [List.take_succ_eq_append_getElem hjl, numL_snoc]
      rw [hr] at hcell
      have HS := Aside0.mk hs
      clear hr hs
      generalize numL (l.take j) = x at *
      generalize l[j] = y at *
      have hx0 : 0 ≤ x := hx.1
      have hx1 : x < 16777216 := by omega
      have hy0 : 0 ≤ y := hv.1
      have hy1 : y < 256 := hv.2
      have hor := or8 (x := x * 256) (y := y) (by omega) (by omega) (by omega) hy0 hy1
      have hor2 := or8 (x := 256 * x) (y := y) (by omega) (by omega) (by omega) hy0 hy1
      clear hx hv hp
      go_wp2
      go_round
      case rel => exact ⟨j + 1, by omega, by go_num, by rw [HS.out]⟩
      case measure => simp [intOf]; omega
    · obtain rfl : j = k := by omega
      go_wp2
      go_ret
      exact ⟨by rw [List.take_of_length_le (by rw [HLK.out]; exact Nat.le_refl _)]; rfl, rfl⟩

/-- What is left of the bytes is what lies behind the first m. -/
theorem held_drop.calls (w : World) (g : Nat) (A : Option Addr) (n c m : Nat) (h0 : w.cell? ⟨g, 0, none⟩ = some (.slice A n c)) (hf : w.frozen? ⟨g, 0, none⟩ = false) (hm : m ≤ n) (hc : n ≤ c) (A' : Option Addr) (HA : Aside0 (A' = if c = m then A else A.map (·.add m))) :
    Calls Try.prog 34 #[.pointer (some ⟨g, 0, none⟩), .int .i64 m] w fun e w' => e = .returned (.tuple #[]) ∧ w.setCell ⟨g, 0, none⟩ (.slice A' (n - m) (c - m)) = w' := by
  obtain ⟨i0, hi0, _, hsz, _⟩ := info_parts info5
  have cut := cut_from (P := Try.prog) 45 5 .i64 Try.underlying45 hi0 1 hsz A n c (m : Int) (by omega) (by omega)
  rw [Int.toNat_natCast, Nat.mul_one] at cut
  rw [← HA.out] at cut
  clear hi0 hsz
  go_enter Try.func34, Try.ntmps34
  go_wp2
  go_end0
  exact ⟨rfl, rfl⟩

theorem known_f (x : Int) : frame_known.f x = some (x == 23520 || x == 60240) := by
  unfold frame_known.f
  by_cases h : x = 23520
  · rw [if_pos h, h]; rfl
  · rw [if_neg h]; simp [h]

theorem number04 (w : World) (g : Nat) (A : Option Addr) (c : Nat) (bs : List Int) (h0 : w.cell? ⟨g, 0, none⟩ = some (.slice A bs.length c)) (hc : bs.length ≤ c) (hC : Kd.C (Kd.int .u8) w A bs.length bs) (hb : ∀ b ∈ bs, 0 ≤ b ∧ b < 256) (h4 : 4 ≤ bs.length) :
    Calls Try.prog 32 #[.pointer (some ⟨g, 0, none⟩), .int .i64 0, .int .i64 4] w fun e w' => e = .returned (.int .i64 (numL (bs.take 4))) ∧ w = w' := by
  have := held_number.calls w g A bs.length c bs 0 4 h0 rfl hc hC (by omega) (by omega) hb
  simp only [Nat.zero_add, List.drop_zero] at this
  exact this
theorem number42 (w : World) (g : Nat) (A : Option Addr) (c : Nat) (bs : List Int) (h0 : w.cell? ⟨g, 0, none⟩ = some (.slice A bs.length c)) (hc : bs.length ≤ c) (hC : Kd.C (Kd.int .u8) w A bs.length bs) (hb : ∀ b ∈ bs, 0 ≤ b ∧ b < 256) (h6 : 6 ≤ bs.length) :
    Calls Try.prog 32 #[.pointer (some ⟨g, 0, none⟩), .int .i64 4, .int .i64 2] w fun e w' => e = .returned (.int .i64 (numL ((bs.take 6).drop 4))) ∧ w = w' :=
  held_number.calls w g A bs.length c bs 4 2 h0 rfl hc hC (by omega) (by omega) hb

/-- What stands at the front of a framer's bytes. -/
def lookF (lim : Int) (bs : List Int) : Int :=
  if bs.length < 4 then 0 else if numL (bs.take 4) < 6 ∨ lim < numL (bs.take 4) then 2 else if bs.length < 6 then 0
  else if (numL ((bs.take 6).drop 4) == 23520 || numL ((bs.take 6).drop 4) == 60240) = true then (if (bs.length : Int) < numL (bs.take 4) then 0 else 1) else 3

set_option maxHeartbeats 1000000 in
theorem Framer_look.calls (w : World) (g : Nat) (A : Option Addr) (c : Nat) (lim : Int) (bs : List Int) (h0 : w.cell? ⟨g, 0, none⟩ = some (.slice A bs.length c)) (h1 : w.cell? ⟨g, 1, none⟩ = some (.int .i64 lim)) (hc : bs.length ≤ c) (hC : Kd.C (Kd.int .u8) w A bs.length bs) (hb : ∀ b ∈ bs, 0 ≤ b ∧ b < 256) :
    Calls Try.prog 33 #[.pointer (some ⟨g, 0, none⟩)] w fun e w' => e = .returned (.int .i64 (lookF lim bs)) ∧ Drawn0 w w' := by
  have hlen := hC.2.1
  have hN4 := number04 w g A c bs h0 hc hC hb
  have hN6 := number42 w g A c bs h0 hc hC hb
  have hbound := fun (h : 4 ≤ bs.length) => numL_bound 4 (bs.take 4) (by rw [List.length_take]; omega) (fun b hx => hb b (List.mem_of_mem_take hx))
  have hS := held_size.calls w g A bs.length c h0
  have HN4 := Aside0.mk hN4
  have HN6 := Aside0.mk hN6
  have HS := Aside0.mk hS
  clear hN4 hN6 hS hb hC hc
  unfold lookF
  by_cases c1 : bs.length < 4
  · rw [if_pos c1]
    go_enter Try.func33, Try.ntmps33
    go_wp2_with (first | (go_at_call 26; refine HS.out.mono ?_; rintro e w' ⟨rfl, rfl⟩))
    go_ret
    exact ⟨rfl, Drawn0.refl _⟩
  · rw [if_neg c1]
    have hb4 := hbound (by omega)
    have c1' : 4 ≤ bs.length := by omega
    have N4 := Aside0.mk (HN4.out c1')
    have p4 : (256 : Int) ^ 4 = 4294967296 := by decide
    rw [p4] at hb4
    clear hbound HN4 p4
    generalize numL (bs.take 4) = k at *
    have hk0 : 0 ≤ k := hb4.1
    have hk1 : k < 4294967296 := hb4.2
    clear hb4
    by_cases c2 : k < 6
    · rw [if_pos (.inl c2)]
      go_enter Try.func33, Try.ntmps33
      go_wp2_with (first | (go_at_call 26; refine HS.out.mono ?_; rintro e w' ⟨rfl, rfl⟩) | (go_at_call 32; refine N4.out.mono ?_; rintro e w' ⟨rfl, rfl⟩))
      go_ret
      exact ⟨rfl, Drawn0.refl _⟩
    · by_cases c3 : lim < k
      · rw [if_pos (.inr c3)]
        go_enter Try.func33, Try.ntmps33
        go_wp2_with (first | (go_at_call 26; refine HS.out.mono ?_; rintro e w' ⟨rfl, rfl⟩) | (go_at_call 32; refine N4.out.mono ?_; rintro e w' ⟨rfl, rfl⟩))
        go_ret
        exact ⟨rfl, Drawn0.refl _⟩
      · rw [if_neg (by omega)]
        by_cases c4 : bs.length < 6
        · rw [if_pos c4]
          go_enter Try.func33, Try.ntmps33
          go_wp2_with (first | (go_at_call 26; refine HS.out.mono ?_; rintro e w' ⟨rfl, rfl⟩) | (go_at_call 32; refine N4.out.mono ?_; rintro e w' ⟨rfl, rfl⟩))
          go_ret
          exact ⟨rfl, Drawn0.refl _⟩
        · rw [if_neg c4]
          have N6 := Aside0.mk (HN6.out (by omega))
          clear HN6
          generalize numL ((bs.take 6).drop 4) = t at *
          have KN := Aside0.mk (known_f t)
          generalize (t == 23520 || t == 60240) = b at *
          cases b with
          | false =>
            rw [if_neg (by simp)]
            go_enter Try.func33, Try.ntmps33
            go_wp2_with (first | (go_at_call 26; refine HS.out.mono ?_; rintro e w' ⟨rfl, rfl⟩) | (go_at_call 32; (with_reducible refine N4.out.mono ?_); rintro e w' ⟨rfl, rfl⟩) | (go_at_call 32; (with_reducible refine N6.out.mono ?_); rintro e w' ⟨rfl, rfl⟩) | (go_at_call 30; (with_reducible refine (frame_known.calls t false _ KN.out).mono ?_); rintro e w_30_ ⟨rfl, ⟨m1, rfl⟩⟩))
            go_ret
            exact ⟨rfl, by repeat (first | exact Drawn0.refl _ | apply Drawn0.step)⟩
          | true =>
            rw [if_pos rfl]
            have HS2 := Aside0.mk (fun (m : Nat) => held_size.calls (w.drewN m) g A bs.length c h0)
            by_cases c5 : (bs.length : Int) < k
            · rw [if_pos c5]
              go_enter Try.func33, Try.ntmps33
              go_wp2_with (first | (go_at_call 26; (with_reducible refine HS.out.mono ?_); rintro e w' ⟨rfl, rfl⟩) | (go_at_call 26; (with_reducible refine (HS2.out _).mono ?_); rintro e w' ⟨rfl, rfl⟩) | (go_at_call 32; (with_reducible refine N4.out.mono ?_); rintro e w' ⟨rfl, rfl⟩) | (go_at_call 32; (with_reducible refine N6.out.mono ?_); rintro e w' ⟨rfl, rfl⟩) | (go_at_call 30; (with_reducible refine (frame_known.calls t true _ KN.out).mono ?_); rintro e w_30_ ⟨rfl, ⟨m1, rfl⟩⟩))
              go_ret
              exact ⟨rfl, by repeat (first | exact Drawn0.refl _ | apply Drawn0.step)⟩
            · rw [if_neg c5]
              go_enter Try.func33, Try.ntmps33
              go_wp2_with (first | (go_at_call 26; (with_reducible refine HS.out.mono ?_); rintro e w' ⟨rfl, rfl⟩) | (go_at_call 26; (with_reducible refine (HS2.out _).mono ?_); rintro e w' ⟨rfl, rfl⟩) | (go_at_call 32; (with_reducible refine N4.out.mono ?_); rintro e w' ⟨rfl, rfl⟩) | (go_at_call 32; (with_reducible refine N6.out.mono ?_); rintro e w' ⟨rfl, rfl⟩) | (go_at_call 30; (with_reducible refine (frame_known.calls t true _ KN.out).mono ?_); rintro e w_30_ ⟨rfl, ⟨m1, rfl⟩⟩))
              go_ret
              exact ⟨rfl, by repeat (first | exact Drawn0.refl _ | apply Drawn0.step)⟩

end Go.Proofs.Ytkchnocliilapaa.Q
