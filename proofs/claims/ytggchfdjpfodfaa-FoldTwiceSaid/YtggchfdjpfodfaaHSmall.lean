/- Small, walked: it tells what smallB says. Condition: as in HOne. -/
import Derived.Test.YtggchfdjpfodfaaHRight
set_option linter.unusedVariables false
set_option linter.unusedSimpArgs false
namespace Go.Proofs.Ytggchfdjpfodfaa.H
open Go.RowKit Go.Proofs.YtggchfdjpfodfaaW.PrintWords Go.Proofs.YtggchfdjpfodfaaW.PrintLast Go.Proofs.YtggchfdjpfodfaaW.PrintMore Go.Proofs.Ytggchfdjpfodfaa.PFoldOf
open Sp

def cntB : List S45 → Int
  | [] => 0
  | b :: r => 1 + b.f0.length + cntB r
def cntF : List S29 → Int
  | [] => 0
  | f :: r => cntB f.f1 + cntF r
theorem cntB_snoc (b : S45) : ∀ l, cntB (l ++ [b]) = cntB l + 1 + b.f0.length := by
  intro l
  induction l with
  | nil => simp [cntB]
  | cons x l ih => simp only [List.cons_append, cntB, ih]; omega
theorem cntF_snoc (f : S29) : ∀ l, cntF (l ++ [f]) = cntF l + cntB f.f1 := by
  intro l
  induction l with
  | nil => simp [cntF]
  | cons x l ih => simp only [List.cons_append, cntF, ih]; omega
def Lens (l : List S45) : Prop := ∀ b ∈ l, b.f0.length ≤ 140737488351232
theorem cntB_bd : ∀ {l : List S45}, Lens l → 0 ≤ cntB l ∧ cntB l ≤ l.length * 140737488351233 := by
  intro l
  induction l with
  | nil => intro _; simp [cntB]
  | cons x l ih =>
    intro h
    have h1 := ih (fun b hb => h b (by simp [hb]))
    have h2 := h x (by simp)
    simp only [cntB, List.length_cons]
    omega
theorem cntF_bd : ∀ {l : List S29}, (∀ f ∈ l, Lens f.f1 ∧ f.f1.length ≤ 40) → 0 ≤ cntF l ∧ cntF l ≤ l.length * 5629499534049320 := by
  intro l
  induction l with
  | nil => intro _; simp [cntF]
  | cons x l ih =>
    intro h
    have h1 := ih (fun b hb => h b (by simp [hb]))
    have h2 := h x (by simp)
    have h3 := cntB_bd h2.1
    simp only [cntF, List.length_cons]
    omega
def fOkB (f : S29) : Bool := decide (f.f0 ≤ 60) && decide (f.f1.length ≤ 40)
theorem fOk_true {f : S29} (h : fOkB f = true) : f.f0 ≤ 60 ∧ f.f1.length ≤ 40 := by simpa [fOkB] using h
/-- Is a program small? -/
def smallB (words : Int) (l : List S29) (most : Int) : Bool := decide (words ≤ 500) && decide (l.length ≤ 10) && l.all fOkB && decide (cntF l ≤ most) && rightB words l

set_option maxHeartbeats 2000000 in
set_option maxRecDepth 100000 in
theorem small_calls (words most : Int) (A : Option Addr) (c : Nat) (l : List S29) (w : World) (hr : Kd.C k29 w A l.length l) (hc : l.length ≤ c) (hz : ∀ f ∈ l, ∀ b ∈ f.f1, ∀ t ∈ b.f0, Wf48 t) (hln : ∀ f ∈ l, Lens f.f1) :
    Calls Try.prog 10 #[.agg #[.int .i64 words, .slice A l.length c], .int .i64 most] w fun e w' => e = .returned (.bool (smallB words l most)) ∧ Below w.heap.size w w' := by
  have hu24 := Try.underlying24
  have hu29 := Try.underlying29
  have hu45 := Try.underlying45
  have hnl := hr.2.1
  by_cases h0 : 500 < words
  · have e : smallB words l most = false := by unfold smallB; simp [show ¬ (words ≤ 500) by omega]
    rw [e]
    go_enter Try.func10, Try.ntmps10
    go_wp2_with (fail)
    go_ret
    exact ⟨rfl, below_alloc (Below.refl _ _) _⟩
  by_cases h1 : 10 < l.length
  · have e : smallB words l most = false := by unfold smallB; simp [show ¬ (l.length ≤ 10) by omega]
    rw [e]
    go_enter Try.func10, Try.ntmps10
    go_wp2_with (fail)
    go_ret
    exact ⟨rfl, below_alloc (Below.refl _ _) _⟩
  have h0' : words ≤ 500 := by omega
  have h1' : l.length ≤ 10 := by omega
  have e : smallB words l most = (l.all fOkB && decide (cntF l ≤ most) && rightB words l) := by
    unfold smallB
    rw [decide_eq_true h0', decide_eq_true h1']
    simp
  rw [e]
  clear h0 h1 e
  go_enter Try.func10, Try.ntmps10
  go_wp2_with (fail)
  go_loopw [5, 6] (fun n i wr => ∃ k : Nat, k ≤ l.length ∧ i = .int .i64 k ∧ n = .int .i64 (cntF (l.take k)) ∧ Aside0 ((l.take k).all fOkB = true) ∧ Aside0 (wr.heap[w.heap.size]? = some (.cells #[.int .i64 words, .slice A l.length c] 24 (0, 0))) ∧ Aside0 (Below w.heap.size w wr)) (fun _ i _ => l.length - (intOf i).toNat)
  case atStart => exact ⟨0, Nat.zero_le _, rfl, rfl, ⟨rfl⟩, ⟨blk_new _ _⟩, ⟨below_alloc (Below.refl _ _) _⟩⟩
  case round =>
    obtain ⟨k, hk, rfl, rfl, HA, HK, HB⟩ := hrel
    obtain ⟨wo, rfl⟩ : ∃ wo : World, wo = wr := ⟨_, rfl⟩
    have z0 : wo.cell? ⟨w.heap.size, 0, none⟩ = some (.int .i64 words) := (blk_cell HK.out 0).trans rfl
    have z1 : wo.cell? ⟨w.heap.size, 1, none⟩ = some (.slice A l.length c) := (blk_cell HK.out 1).trans rfl
    have hbd := cntF_bd (l := l.take k) (fun f hf => ⟨hln f (List.mem_of_mem_take hf), (fOk_true (List.all_eq_true.1 HA.out f hf)).2⟩)
    rw [List.length_take, Nat.min_eq_left hk] at hbd
    by_cases hlt : k < l.length
    · obtain ⟨ad, A0, c0, rfl, x0, x1, hlen0, hC0⟩ := at_T29 hr (k : Int) (by omega) (by omega)
      rw [Int.toNat_natCast] at x0 x1
      have xw0 := Aside0.mk x0
      have xw1 := Aside0.mk x1
      replace x0 := pw_cell_below HB.out x0
      replace x1 := pw_cell_below HB.out x1
      have hnb := hC0.2.1
      generalize hbk : rd_T29 l (k : Int) = b at *
      have hzb := hz b (by rw [← hbk]; exact rd_mem2 hlt)
      have hlb := hln b (by rw [← hbk]; exact rd_mem2 hlt)
      have hmem : b ∈ l := by rw [← hbk]; exact rd_mem2 hlt
      have Hbk := Aside0.mk hbk
      clear hbk
      by_cases hg : b.f0 ≤ 60
      · by_cases hg1 : b.f1.length ≤ 40
        · go_wp2_with (fail)
          have X0 := Aside0.mk (show w.cell? (ad.add (k * 2)) = _ from xw0.out)
          have X1 := xw1
          clear x0 x1
          go_loopw [5, 7] (fun n i wr => ∃ j : Nat, j ≤ b.f1.length ∧ i = .int .i64 j ∧ n = .int .i64 (cntF (l.take k) + cntB (b.f1.take j)) ∧ Aside0 (wr.heap[w.heap.size]? = some (.cells #[.int .i64 words, .slice (some ad) l.length c] 24 (0, 0))) ∧ Aside0 (Below w.heap.size w wr)) (fun _ i _ => b.f1.length - (intOf i).toNat)
          case atStart => exact ⟨0, Nat.zero_le _, rfl, by simp [cntB], HK, HB⟩
          case round =>
            clear HK HB z0 z1
            obtain ⟨j, hj, rfl, rfl, HK, HB⟩ := hrel
            obtain ⟨wi, rfl⟩ : ∃ wi : World, wi = wr := ⟨_, rfl⟩
            have z1 : wi.cell? ⟨w.heap.size, 1, none⟩ = some (.slice (some ad) l.length c) := (blk_cell HK.out 1).trans rfl
            have x1 := pw_cell_below HB.out X1.out
            have hbj := cntB_bd (l := b.f1.take j) (fun q hq => hlb q (List.mem_of_mem_take hq))
            rw [List.length_take, Nat.min_eq_left hj] at hbj
            by_cases hlj : j < b.f1.length
            · obtain ⟨ai, A2, c2, rfl, y0, y1, y2, y3, y4, hlen2, hC2⟩ := at_T45 hC0 (j : Int) (by omega) (by omega)
              replace y0 := pw_cell_below HB.out y0
              simp only [Int.toNat_natCast] at y0
              have hlq := hlb (rd_T45 b.f1 (j : Int)) (rd_mem hlj)
              have hsn : cntB (b.f1.take (j + 1)) = cntB (b.f1.take j) + 1 + (rd_T45 b.f1 (j : Int)).f0.length := by rw [take_rd5 hlj, cntB_snoc]
              have Hsn := Aside0.mk hsn
              clear hsn
              go_wp2_with (fail)
              go_roundw
              case rel => exact ⟨j + 1, hlj, by go_num, by rw [Hsn.out]; go_num, HK, HB⟩
              case measure => simp [intOf]; omega
            · have hj' : j = b.f1.length := by omega
              subst hj'
              have hsn : cntF (l.take (k + 1)) = cntF (l.take k) + cntB (b.f1.take b.f1.length) := by rw [take_rd2 hlt, cntF_snoc, Hbk.out, List.take_length]
              have Hsn := Aside0.mk hsn
              clear hsn
              go_wp2_with (fail)
              go_roundw
              case rel => exact ⟨k + 1, hlt, by go_num, by rw [Hsn.out], ⟨by rw [take_rd2 hlt, Hbk.out]; exact all_snoc HA.out (by simp [fOkB, hg, hg1])⟩, HK, HB⟩
              case measure => simp [intOf]; omega
        · have hb := Aside0.mk (all_bad (p := fOkB) hmem (by simp [fOkB, hg1]))
          have hg1' : 40 < b.f1.length := by omega
          go_wp2_with (fail)
          go_ret
          exact ⟨ret_b (by rw [hb.out]; rfl), HB.out⟩
      · have hb := Aside0.mk (all_bad (p := fOkB) hmem (by simp [fOkB, hg]))
        have hg' : 60 < b.f0 := by omega
        go_wp2_with (fail)
        go_ret
        exact ⟨ret_b (by rw [hb.out]; rfl), HB.out⟩
    · have hk' : k = l.length := by omega
      subst hk'
      rw [List.take_length] at HA hbd
      by_cases hm : cntF l ≤ most
      · go_wp2_with (fail)
        refine (right_calls _ _ _ _ _ (Kd.C_below hr HB.out) hc hz).mono ?_
        rintro e w1 ⟨rfl, hb1⟩
        go_wp2_with (fail)
        go_ret
        exact ⟨ret_b (by rw [HA.out, decide_eq_true hm]; rfl), below_then HB.out HB.out.size hb1⟩
      · have hm' : most < cntF l := by omega
        go_wp2_with (fail)
        go_ret
        exact ⟨ret_b (by rw [HA.out, decide_eq_false (show ¬ (cntF l ≤ most) by omega)]; rfl), HB.out⟩
end Go.Proofs.Ytggchfdjpfodfaa.H
