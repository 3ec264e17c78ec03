/- What TextNumbers asks of Unescape: bytes, one entity, a letter and another entity (layer 2). -/
import Derived.Test.YthgodajjaddgbaaVx0
import Derived.Test.YthgodajjaddgbaaHNumEnc
import Derived.Test.YthgodajjaddgbaaHPieces
import Derived.IntWalk
namespace Go.Proofs.Ythgodajjaddgbaa.V
open Go.RowKit Go.Proofs.YthgodajjaddgbaaW.PrintWords Go.Proofs.YthgodajjaddgbaaW.PrintLast Go.Proofs.YthgodajjaddgbaaW.PrintMore
attribute [local go_sem] max2_int min2_int max_two min_two max_three min_three max_four min_four   -- for this text's walks alone
set_option linter.unusedVariables false
set_option linter.unusedSimpArgs false

def frItems (fr : List Int) : List (List Int × List Int) := fr.map fun c => ([c], [c])
theorem inp_fr (fr : List Int) : inpL (frItems fr) = fr := by unfold inpL frItems; rw [List.flatMap_map]; simp
theorem out_fr (fr : List Int) : outL (frItems fr) = fr := by unfold outL frItems; rw [List.flatMap_map]; simp
theorem unes_good (w : World) (fr mid : List Int) (v S : ByteArray) (hfr : ∀ x ∈ fr, 0 ≤ x ∧ x ≤ 255 ∧ x ≠ 38) (hl : fr.length ≤ 64) (hm : ∀ x ∈ mid, 0 ≤ x ∧ x ≤ 255 ∧ x ≠ 59) (hml : mid.length ≤ 200) (hv : v.size ≤ 1000)
    (T : ∀ W : World, Calls Try.prog 32 #[.string (strOfNums mid)] W fun e w' => e = .returned (.tuple #[.string v, .bool true]) ∧ Below W.heap.size W w')
    (hS : S = strOfNums (fr ++ (38 :: (mid ++ [59]) ++ [122, 38, 108, 116, 59]))) :
    Calls Try.prog 16 #[.string S] w fun e w' => e = .returned (.tuple #[.string (strOfNums fr ++ v ++ strOfNums [122, 60]), .int .i64 0, .int .i64 0]) ∧ Below w.heap.size w w' := by
  obtain ⟨its, hits⟩ : ∃ its, its = frItems fr ++ [(38 :: (mid ++ [59]), bytesT v), ([122], [122]), ([38, 108, 116, 59], [60])] := ⟨_, rfl⟩
  have hi : inpL its = fr ++ (38 :: (mid ++ [59]) ++ [122, 38, 108, 116, 59]) := by rw [hits, inpL_app, inp_fr]; simp [inpL]
  have ho : outL its = fr ++ (bytesT v ++ [122, 60]) := by rw [hits, outL_app, out_fr]; simp [outL]
  have hok : ∀ p ∈ its, ItemOk p := by
    intro p hp
    rw [hits] at hp
    rcases List.mem_append.1 hp with hp | hp
    · obtain ⟨c, hc, rfl⟩ := List.mem_map.1 hp
      exact .inl ⟨c, rfl, rfl, (hfr c hc).2.2⟩
    · simp only [List.mem_cons, List.not_mem_nil, or_false] at hp
      rcases hp with rfl | rfl | rfl
      · exact .inr ⟨mid, v, rfl, rfl, hm, hv, T⟩
      · exact .inl ⟨122, rfl, rfl, by decide⟩
      · exact .inr ⟨[108, 116], ⟨#[60]⟩, rfl, rfl, by decide, by decide, ent_lt⟩
  have hlb : (bytesT v).length ≤ 1000 := by rw [bytesT_len]; exact hv
  have := text_Unescape.good w its [] S (by rw [hS, hi, List.append_nil]) hok (by
      intro x hx
      rw [List.append_nil, hi] at hx
      rcases List.mem_append.1 hx with hx | hx
      · exact ⟨(hfr x hx).1, (hfr x hx).2.1⟩
      rcases List.mem_append.1 hx with hx | hx
      · rcases List.mem_cons.1 hx with rfl | hx
        · decide
        rcases List.mem_append.1 hx with hx | hx
        · exact ⟨(hm x hx).1, (hm x hx).2.1⟩
        · rw [List.mem_singleton.1 hx]; decide
      · simp only [List.mem_cons, List.not_mem_nil, or_false] at hx; omega) (by
      intro x hx
      rw [ho] at hx
      rcases List.mem_append.1 hx with hx | hx
      · exact ⟨(hfr x hx).1, (hfr x hx).2.1⟩
      rcases List.mem_append.1 hx with hx | hx
      · exact bytesT_range v x hx
      · simp only [List.mem_cons, List.not_mem_nil, or_false] at hx; omega) (by rw [List.append_nil, hi]; simp only [List.length_append, List.length_cons, List.length_nil]; omega) (by rw [ho]; simp only [List.length_append, List.length_cons, List.length_nil]; omega) rfl
  rw [ho, ← strOf_appT, ← strOf_appT, strOf_bytesT] at this
  rw [ByteArray.append_assoc]
  exact this
theorem unes_bad (w : World) (fr mid : List Int) (v S : ByteArray) (hfr : ∀ x ∈ fr, 0 ≤ x ∧ x ≤ 255 ∧ x ≠ 38) (hl : fr.length ≤ 64) (hm : ∀ x ∈ mid, 0 ≤ x ∧ x ≤ 255 ∧ x ≠ 59) (hml : mid.length ≤ 200)
    (T : ∀ W : World, Calls Try.prog 32 #[.string (strOfNums mid)] W fun e w' => e = .returned (.tuple #[.string v, .bool false]) ∧ Below W.heap.size W w')
    (hS : S = strOfNums (fr ++ (38 :: (mid ++ [59]) ++ [122, 38, 108, 116, 59]))) :
    Calls Try.prog 16 #[.string S] w fun e w' => e = .returned (.tuple #[.string ByteArray.empty, .int .i64 22, .int .i64 (fr.length : Int)]) ∧ Below w.heap.size w w' := by
  have hre : ∀ x ∈ fr ++ (38 :: (mid ++ 59 :: [122, 38, 108, 116, 59])), 0 ≤ x ∧ x ≤ 255 := by
    intro x hx
    rcases List.mem_append.1 hx with hx | hx
    · exact ⟨(hfr x hx).1, (hfr x hx).2.1⟩
    · rcases List.mem_cons.1 hx with rfl | hx
      · decide
      rcases List.mem_append.1 hx with hx | hx
      · exact ⟨(hm x hx).1, (hm x hx).2.1⟩
      · simp only [List.mem_cons, List.not_mem_nil, or_false] at hx; omega
  have := text_Unescape.bad w (frItems fr) (38 :: (mid ++ 59 :: [122, 38, 108, 116, 59])) S (by rw [hS, inp_fr]; simp) (by
      intro p hp
      obtain ⟨c, hc, rfl⟩ := List.mem_map.1 hp
      exact .inl ⟨c, rfl, rfl, (hfr c hc).2.2⟩) (by rw [inp_fr]; exact hre) (by
      intro x hx
      rw [out_fr] at hx
      exact ⟨(hfr x hx).1, (hfr x hx).2.1⟩) (by rw [inp_fr]; simp only [List.length_append, List.length_cons, List.length_nil]; omega) (by rw [out_fr]; omega) mid [122, 38, 108, 116, 59] v ⟨rfl, hm, T⟩
  rw [inp_fr] at this
  exact this
theorem hx_rng (d : Int) (h : 0 ≤ d ∧ d < 16) : 0 ≤ hxM d ∧ hxM d ≤ 255 ∧ hxM d ≠ 59 := by unfold hxM; repeat' split; all_goals omega
theorem uN_in (fr m1 : List Int) (D : ByteArray) (L : List Int) (hD : D = strOfNums L) (P : ByteArray) (hP : P = strOfNums (38 :: m1)) : strOfNums fr ++ (P ++ D ++ ⟨#[59]⟩) ++ ⟨#[122, 38, 108, 116, 59]⟩ = strOfNums (fr ++ (38 :: ((m1 ++ L) ++ [59]) ++ [122, 38, 108, 116, 59])) := by
  rw [hD, hP, show (⟨#[59]⟩ : ByteArray) = strOfNums [59] from rfl, show (⟨#[122, 38, 108, 116, 59]⟩ : ByteArray) = strOfNums [122, 38, 108, 116, 59] from rfl, strOf_appT, strOf_appT, strOf_appT, strOf_appT]
  congr 1
  simp
/-- What Unescape answers of the whole text. -/
def uAns (fr : List Int) (n : Int) : Value := if goodN n then .tuple #[.string (strOfNums fr ++ Utf8.encode n ++ ⟨#[122, 60]⟩), .int .i64 0, .int .i64 0] else .tuple #[.string ByteArray.empty, .int .i64 22, .int .i64 (fr.length : Int)]
theorem uN_all (fr mid : List Int) (n : Int) (S : ByteArray) (hfr : ∀ x ∈ fr, 0 ≤ x ∧ x ≤ 255 ∧ x ≠ 38) (hl : fr.length ≤ 64) (hm : ∀ x ∈ mid, 0 ≤ x ∧ x ≤ 255 ∧ x ≠ 59) (hml : mid.length ≤ 200)
    (T : ∀ W : World, Calls Try.prog 32 #[.string (strOfNums mid)] W fun e w' => e = .returned (.tuple #[.string (encN n), .bool (goodN n)]) ∧ Below W.heap.size W w')
    (hS : S = strOfNums (fr ++ (38 :: (mid ++ [59]) ++ [122, 38, 108, 116, 59]))) (w : World) :
    Calls Try.prog 16 #[.string S] w fun e w' => e = .returned (uAns fr n) ∧ Below w.heap.size w w' := by
  unfold uAns
  cases hg : goodN n with
  | true =>
    rw [if_pos rfl]
    have he : encN n = Utf8.encode n := by unfold encN; rw [hg, if_pos rfl]
    rw [hg, he] at T
    exact unes_good w fr mid (Utf8.encode n) S hfr hl hm hml (by have := enc_size n; omega) T hS
  | false =>
    rw [if_neg (by decide)]
    rw [hg] at T
    exact unes_bad w fr mid _ S hfr hl hm hml T hS
theorem uN_dec (fr : List Int) (hfr : ∀ x ∈ fr, 0 ≤ x ∧ x ≤ 255 ∧ x ≠ 38) (hl : fr.length ≤ 64) (n : Int) (h0 : 0 ≤ n) (h1 : n < 1179648) (ds : List Int) (hd : ∀ d ∈ ds, 0 ≤ d ∧ d < 10) (hne : ds ≠ []) (hdl : ds.length ≤ 40) (hv : valF 10 0 ds = n) (z : Nat) (hz : z ≤ 30) (D : ByteArray) (hD : D = strOfNums ((List.replicate z 0 ++ ds).map fun d => d + 48)) (w : World) :
    Calls Try.prog 16 #[.string (strOfNums fr ++ (⟨#[38, 35]⟩ ++ D ++ ⟨#[59]⟩) ++ ⟨#[122, 38, 108, 116, 59]⟩)] w fun e w' => e = .returned (uAns fr n) ∧ Below w.heap.size w w' := by
  have hS := uN_in fr [35] D _ hD ⟨#[38, 35]⟩ rfl
  have T := fun W => num_dec n h0 h1 ds hd hne hdl hv z hz W
  obtain ⟨L, hL⟩ : ∃ L, L = (List.replicate z 0 ++ ds).map fun d => d + 48 := ⟨_, rfl⟩
  rw [← hL] at hS T
  refine uN_all fr (35 :: L) n _ hfr hl ?_ ?_ T hS w
  all_goals rw [hL]
  · intro x hx
    rcases List.mem_cons.1 hx with rfl | hx
    · decide
    · obtain ⟨d, hd2, rfl⟩ := List.mem_map.1 hx
      have := zr_mem z 10 (by decide) ds hd d hd2
      omega
  · simp; omega
theorem uN_hex (fr : List Int) (hfr : ∀ x ∈ fr, 0 ≤ x ∧ x ≤ 255 ∧ x ≠ 38) (hl : fr.length ≤ 64) (n : Int) (h0 : 0 ≤ n) (h1 : n < 1179648) (ds : List Int) (hd : ∀ d ∈ ds, 0 ≤ d ∧ d < 16) (hne : ds ≠ []) (hdl : ds.length ≤ 40) (hv : valF 16 0 ds = n) (z : Nat) (hz : z ≤ 30) (D : ByteArray) (hD : D = strOfNums ((List.replicate z 0 ++ ds).map hxM)) (w : World) :
    Calls Try.prog 16 #[.string (strOfNums fr ++ (⟨#[38, 35, 120]⟩ ++ D ++ ⟨#[59]⟩) ++ ⟨#[122, 38, 108, 116, 59]⟩)] w fun e w' => e = .returned (uAns fr n) ∧ Below w.heap.size w w' := by
  have hS := uN_in fr [35, 120] D _ hD ⟨#[38, 35, 120]⟩ rfl
  have T := fun W => num_hex n h0 h1 ds hd hne hdl hv z hz W
  obtain ⟨L, hL⟩ : ∃ L, L = (List.replicate z 0 ++ ds).map hxM := ⟨_, rfl⟩
  rw [← hL] at hS T
  refine uN_all fr (35 :: 120 :: L) n _ hfr hl ?_ ?_ T hS w
  all_goals rw [hL]
  · intro x hx
    rcases List.mem_cons.1 hx with rfl | hx
    · decide
    rcases List.mem_cons.1 hx with rfl | hx
    · decide
    · obtain ⟨d, hd2, rfl⟩ := List.mem_map.1 hx
      exact hx_rng d (zr_mem z 16 (by decide) ds hd d hd2)
  · simp; omega
theorem front_rng (l : List Int) (h : ∀ x ∈ l, 0 ≤ x ∧ x ≤ 255) : (∀ x ∈ (l.take 64).filter (fun c => c != 38), 0 ≤ x ∧ x ≤ 255 ∧ x ≠ 38) ∧ ((l.take 64).filter (fun c => c != 38)).length ≤ 64 := by
  refine ⟨fun x hx => ?_, ?_⟩
  · obtain ⟨h1, h2⟩ := List.mem_filter.1 hx
    have := h x (List.mem_of_mem_take h1)
    exact ⟨this.1, this.2, by simpa using h2⟩
  · have := List.length_filter_le (fun c : Int => c != 38) (l.take 64)
    rw [List.length_take] at this
    omega

end Go.Proofs.Ythgodajjaddgbaa.V
