/- known.fold and block.Sets, walked: the instruction that comes back is foldP's, and the map holds what foldP says. Condition: the instruction is right in its constants. -/
import Derived.Test.YtggchfdjpfodfaaHVal
set_option linter.unusedVariables false
set_option linter.unusedSimpArgs false
namespace Go.Proofs.Ytggchfdjpfodfaa.H
open Go.RowKit Go.Proofs.YtggchfdjpfodfaaW.PrintWords Go.Proofs.YtggchfdjpfodfaaW.PrintLast Go.Proofs.YtggchfdjpfodfaaW.PrintMore Go.Proofs.Ytggchfdjpfodfaa.PFoldOf
open Sp

def setsP (op d : Int) : Int := if op = 1 ∨ op = 2 ∨ op = 3 ∨ op = 4 ∨ op = 6 ∨ op = 8 then d else -1
theorem ret_i {k : IntKind} {a a' : Int} (h : a = a') : Ending.returned (.int k a) = .returned (.int k a') := by rw [h]
set_option maxHeartbeats 1000000 in
set_option maxRecDepth 100000 in
theorem sets_calls (op d a c k ba sz nn : Int) (w : World) :
    Calls Try.prog 24 #[.agg #[.int .i64 op, .int .i64 d, .int .i64 a, .int .i64 c, .int .i64 k, .int .i64 ba, .int .i64 sz, .int .u32 nn]] w fun e w' => e = .returned (.int .i64 (setsP op d)) ∧ Below w.heap.size w w' := by
  have hu48 := Try.underlying48
  go_enter Try.func24, Try.ntmps24
  go_wp2
  all_goals go_ret
  all_goals refine ⟨ret_i ?_, (Below.refl _ _).alloc (Nat.le_refl _) _⟩
  all_goals simp only [beq_iff_eq, beq_eq_false_iff_ne, ne_eq] at *
  all_goals simp [setsP, *]

def foldP (M : Int → Option Int) (t : S48) : S48 × (Int → Option Int) :=
  if setsP t.f0 t.f1 < 0 then (t, M)
  else if (valueP M t.f0 t.f2 t.f3 t.f4 t.f7).2 = true then (⟨1, t.f1, 0, 0, 0, 0, 0, (valueP M t.f0 t.f2 t.f3 t.f4 t.f7).1⟩, IM.upd M t.f1 (some (valueP M t.f0 t.f2 t.f3 t.f4 t.f7).1))
  else (t, IM.upd M t.f1 none)
def enc48 (t : S48) : Value := .agg #[.int .i64 t.f0, .int .i64 t.f1, .int .i64 t.f2, .int .i64 t.f3, .int .i64 t.f4, .int .i64 t.f5, .int .i64 t.f6, .int .u32 t.f7]

theorem bcell {W w1 : World} (hb : Below W.heap.size W w1) : (∀ b o, b < W.heap.size → w1.cell? ⟨b, o, none⟩ = W.cell? ⟨b, o, none⟩) ∧ (∀ b o, b < W.heap.size → w1.frozen? ⟨b, o, none⟩ = W.frozen? ⟨b, o, none⟩) :=
  ⟨fun b o h => hb.cell (p := ⟨b, o, none⟩) h, fun b o h => hb.frozen (p := ⟨b, o, none⟩) h⟩

theorem gcell {W w1 : World} {b : Nat} (hg : W.grownBy w1 (some b)) : (∀ c (o : Nat), c < W.heap.size → c ≠ b → w1.cell? ⟨c, o, none⟩ = W.cell? ⟨c, o, none⟩) ∧ (∀ c o, c < W.heap.size → c ≠ b → w1.frozen? ⟨c, o, none⟩ = W.frozen? ⟨c, o, none⟩) :=
  ⟨fun c _ h hne => World.cell?_of_block (w := W) (hg.block c h (fun e => hne (Option.some.inj e))), fun c _ h hne => World.frozen?_of_block (w := W) (hg.block c h (fun e => hne (Option.some.inj e)))⟩
theorem gr_set {w W : World} {row : Option Nat} (h : w.grownBy W row) {p : Addr} (hp : w.heap.size ≤ p.block) (u : Value) : w.grownBy (W.setCell p u) row :=
  ⟨h.os, h.tape, h.output, by simpa [World.setCell] using h.size, fun i hi hne => by rw [Below.heap_setCell _ _ _ _ (by omega)]; exact h.block i hi hne⟩
theorem gr_below {w W W' : World} {row : Option Nat} (h : w.grownBy W row) (hb : Below W.heap.size W W') : w.grownBy W' row := World.grownBy.trans h (grown_of_below hb row)
theorem gr_alloc {w W : World} {row : Option Nat} (h : w.grownBy W row) (o : Obj) : w.grownBy (W.alloc o) row := World.grownBy.trans h (World.grownBy_alloc _ _ _)

set_option maxHeartbeats 1000000 in
set_option maxRecDepth 100000 in
theorem fold_calls (b n : Nat) (M : Int → Option Int) (t0 t1 t2 t3 t4 t5 t6 t7 : Int) (w : World) (hm : KM w b n M) (hn : n < 1000000) (hM : Words M) (hd : (Lit.int .i64 t1).wf = true) (ha : (Lit.int .i64 t2).wf = true) (hc : (Lit.int .i64 t3).wf = true)
    (hv : W32 (valueP M t0 t2 t3 t4 t7).1) :
    Calls Try.prog 18 #[.map (some b), .agg #[.int .i64 t0, .int .i64 t1, .int .i64 t2, .int .i64 t3, .int .i64 t4, .int .i64 t5, .int .i64 t6, .int .u32 t7]] w fun e w' =>
      e = .returned (enc48 (foldP M ⟨t0, t1, t2, t3, t4, t5, t6, t7⟩).1) ∧ KM w' b (n + 1) (foldP M ⟨t0, t1, t2, t3, t4, t5, t6, t7⟩).2 ∧ w.grownBy w' (some b) := by
  have hu48 := Try.underlying48
  have hlt := hm.lt
  obtain ⟨fp, hfp⟩ : ∃ fp, fp = foldP M ⟨t0, t1, t2, t3, t4, t5, t6, t7⟩ := ⟨_, rfl⟩
  rw [← hfp]
  have HF := Aside0.mk hfp
  clear hfp
  go_enter Try.func18, Try.ntmps18
  go_wp2_with (fail)
  refine (sets_calls _ _ _ _ _ _ _ _ _).mono ?_
  rintro e w1 ⟨rfl, hb⟩
  obtain ⟨hc1, hf1⟩ := bcell hb
  have hz : w.heap.size + 1 < w1.heap.size := by have := hb.size; simp at this; omega
  have g1 : w.grownBy w1 (some b) := gr_below (gr_alloc (gr_alloc (World.grownBy.refl w (some b)) _) _) hb
  have hm1 : KM w1 b n M := IM.Is.same ((hm.alloc _).alloc _) (hb.block b (by simp; omega))
  have hzb : b ≠ w.heap.size + 1 := by omega
  go_wp2_with (fail)
  · have hs : setsP t0 t1 < 0 := by assumption
    have e : fp = (⟨t0, t1, t2, t3, t4, t5, t6, t7⟩, M) := by rw [HF.out]; unfold foldP; rw [if_pos hs]
    subst e
    refine bodyPost_ret (v := enc48 ⟨t0, t1, t2, t3, t4, t5, t6, t7⟩) (by simp [results, Try.results18, go_sem, enc48, hc1]) rfl ⟨rfl, ?_, ?_⟩
    · iterate 8 refine IM.Is.setCell ?_ hzb _
      exact hm1.mono (by omega)
    · iterate 8 refine gr_set ?_ (Nat.le_succ _) _
      exact g1
  · have hs : 0 ≤ setsP t0 t1 := by assumption
    have hsd : setsP t0 t1 = t1 := by unfold setsP at hs ⊢; split <;> simp_all
    have e : fp = if (valueP M t0 t2 t3 t4 t7).2 = true then (⟨1, t1, 0, 0, 0, 0, 0, (valueP M t0 t2 t3 t4 t7).1⟩, IM.upd M t1 (some (valueP M t0 t2 t3 t4 t7).1)) else (⟨t0, t1, t2, t3, t4, t5, t6, t7⟩, IM.upd M t1 none) := by rw [HF.out]; unfold foldP; rw [if_neg (by simp; omega)]
    rw [hsd] at hs
    refine (value_calls _ _ _ _ _ _ _ _ _ _ _ _ hm1 hM ha hc).mono ?_
    rintro e w2 ⟨rfl, hb2⟩
    obtain ⟨hc2, hf2⟩ := bcell hb2
    have g2 : w.grownBy w2 (some b) := gr_below g1 hb2
    have hm2 : KM w2 b n M := IM.Is.same hm1 (hb2.block b (by omega))
    have hz2 : w.heap.size + 1 < w2.heap.size := by have := hb2.size; omega
    generalize (valueP M t0 t2 t3 t4 t7) = vp at *
    obtain ⟨v, ok⟩ := vp
    cases ok
    · simp only [Bool.false_eq_true, ↓reduceIte] at e
      subst e
      rw [hsd]
      go_wp2_with (at_delete; refine IM.del rfl _ _ 62 rfl Try.underlying62 Try.underlying3 rfl hm2 t1 rfl hd ?_)
      intro w3 hm3 g3
      obtain ⟨hc3, hf3⟩ := gcell g3
      have hz3 : w.heap.size + 1 < w3.heap.size := by have := g3.size; omega
      have hne0 : w.heap.size ≠ b := by omega
      have hne1 : w.heap.size + 1 ≠ b := by omega
      have hz2' : w.heap.size < w2.heap.size := by omega
      have hz1' : w.heap.size < w1.heap.size := by omega
      go_wp2_with (fail)
      refine bodyPost_ret (v := enc48 ⟨t0, t1, t2, t3, t4, t5, t6, t7⟩) (by simp [results, Try.results18, go_sem, enc48, hc1, hc2, hc3, hz2, hz2', hz, hz1', hne0, hne1]) rfl ⟨rfl, ?_, ?_⟩
      · iterate 8 refine IM.Is.setCell ?_ hzb _
        exact hm3.mono (by omega)
      · iterate 8 refine gr_set ?_ (Nat.le_succ _) _
        exact World.grownBy.trans g2 g3
    · simp only [↓reduceIte] at e
      subst e
      rw [hsd]
      have hwv : (Lit.int .u32 v).wf = true := WalkArith.wf_u32 hv
      go_wp2_with (at_mapUpdate; refine IM.put rfl _ _ _ 62 rfl Try.underlying62 Try.underlying3 Try.underlying46 rfl hm2 (by unfold maxLen; omega) t1 v rfl hd rfl hwv ?_)
      intro w3 hm3 g3
      obtain ⟨hc3, hf3⟩ := gcell g3
      have hz3 : w.heap.size + 1 < w3.heap.size := by have := g3.size; omega
      have hne0 : w.heap.size ≠ b := by omega
      have hne1 : w.heap.size + 1 ≠ b := by omega
      have hz2' : w.heap.size < w2.heap.size := by omega
      have hz1' : w.heap.size < w1.heap.size := by omega
      go_wp2_with (fail)
      refine bodyPost_ret (v := enc48 ⟨1, t1, 0, 0, 0, 0, 0, v⟩) (by simp [results, Try.results18, go_sem, enc48, hc1, hc2, hc3, hz2, hz2', hz, hz1', hne0, hne1]) rfl ⟨rfl, ?_, ?_⟩
      · iterate 8 refine IM.Is.setCell ?_ hzb _
        exact hm3
      · iterate 8 refine gr_set ?_ (Nat.le_succ _) _
        exact World.grownBy.trans g2 g3
end Go.Proofs.Ytggchfdjpfodfaa.H
