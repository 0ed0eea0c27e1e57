/- truth and word.Apply, walked: they return what the plain functions of the text Spec say. Condition: the operands are words.
   known.value, walked: it returns what valueP says and leaves the map's blocks as they were. Condition: the map is the call's own.
   known.fold and block.Sets, walked: the instruction that comes back is foldP's, and the map holds what foldP says. Condition: the instruction is right in its constants.
   Small laws on lists that are read at a place of a number. No condition.
   within, and shorter roads for fits. No condition. -/
import Derived.Test.YtggchfdjpfodfaaG0
import Derived.Test.YtggchfdjpfodfaaSpec
import Derived.Test.YtggchfdjpfodfaaIM
import Derived.Test.YtggchfdjpfodfaaGe1
set_option linter.unusedVariables false
set_option linter.unusedSimpArgs false
namespace Go.Proofs.Ytggchfdjpfodfaa.K
open Go.RowKit Go.Proofs.YtggchfdjpfodfaaW.PrintWords Go.Proofs.YtggchfdjpfodfaaW.PrintLast Go.Proofs.YtggchfdjpfodfaaW.PrintMore Go.Proofs.Ytggchfdjpfodfaa.G
open Sp

theorem ret_pair {k l : IntKind} {a a' b b' : Int} (h : a = a') (g : b = b') : Ending.returned (.tuple #[.int k a, .int l b]) = .returned (.tuple #[.int k a', .int l b']) := by rw [h, g]
theorem truth_calls (x : Bool) (w : World) : Calls Try.prog 23 #[.bool x] w fun e w' => e = .returned (.int .u32 (if x then 1 else 0)) ∧ w' = w := by
  go_enter Try.func23, Try.ntmps23
  cases x <;> go_wp2 <;> go_ret <;> exact ⟨rfl, rfl⟩

set_option maxHeartbeats 1000000 in
set_option maxRecDepth 100000 in
theorem apply_calls (op a b : Int) (w : World) (ha : 0 ≤ a ∧ a ≤ 4294967295) (hb : 0 ≤ b ∧ b ≤ 4294967295) :
    Calls Try.prog 17 #[.int .i64 op, .int .u32 a, .int .u32 b] w fun e w' => e = .returned (.tuple #[.int .u32 (app op a b).1, .int .i64 (app op a b).2]) ∧ w' = w := by
  obtain ⟨ha0, ha1⟩ := ha
  obtain ⟨hb0, hb1⟩ := hb
  go_enter Try.func17, Try.ntmps17
  go_wp2_with (go_at_call 23; refine (truth_calls _ _).mono ?_; rintro e w' ⟨rfl, rfl⟩)
  all_goals first | (exfalso; simp_all; done) | skip
  all_goals go_ret2
  all_goals refine ⟨ret_pair ?_ ?_, rfl⟩
  all_goals simp only [beq_iff_eq, beq_eq_false_iff_ne, ne_eq] at *
  all_goals simp [app, *]
end Go.Proofs.Ytggchfdjpfodfaa.K
set_option linter.unusedVariables false
set_option linter.unusedSimpArgs false
namespace Go.Proofs.Ytggchfdjpfodfaa.K
open Go.RowKit Go.Proofs.YtggchfdjpfodfaaW.PrintWords Go.Proofs.YtggchfdjpfodfaaW.PrintLast Go.Proofs.YtggchfdjpfodfaaW.PrintMore Go.Proofs.Ytggchfdjpfodfaa.G
open Sp

abbrev KM := IM.Is Try.prog 3 46 .u32
theorem zero46 (w : World) : (zeroValue 46).run Try.prog w = .ok (.int .u32 0) w := by kernel_rfl
theorem ret_ib {k : IntKind} {a a' : Int} {b b' : Bool} (h : a = a') (g : b = b') : Ending.returned (.tuple #[.int k a, .bool b]) = .returned (.tuple #[.int k a', .bool b']) := by rw [h, g]

set_option maxHeartbeats 1000000 in
set_option maxRecDepth 100000 in
theorem value_calls (b n : Nat) (M : Int → Option Int) (op d a c k ba sz nn : Int) (w : World) (hm : KM w b n M) (hM : Words M) (ha : (Lit.int .i64 a).wf = true) (hc : (Lit.int .i64 c).wf = true) :
    Calls Try.prog 25 #[.map (some b), .agg #[.int .i64 op, .int .i64 d, .int .i64 a, .int .i64 c, .int .i64 k, .int .i64 ba, .int .i64 sz, .int .u32 nn]] w fun e w' =>
      e = .returned (.tuple #[.int .u32 (valueP M op a c k nn).1, .bool (valueP M op a c k nn).2]) ∧ Below w.heap.size w w' := by
  have hu48 := Try.underlying48
  have ga := hM.getD a
  have gc := hM.getD c
  go_enter Try.func25, Try.ntmps25
  go_wp2_with (first | (at_lookup; refine IM.look rfl _ _ 62 rfl Try.underlying62 Try.underlying3 Try.underlying46 (zero46 _) rfl (hm.alloc _) a rfl ha ?_) | (at_lookup; refine IM.look rfl _ _ 62 rfl Try.underlying62 Try.underlying3 Try.underlying46 (zero46 _) rfl (hm.alloc _) c rfl hc ?_) | (go_at_call 17; refine (apply_calls _ _ _ _ ga gc).mono ?_; rintro e w' ⟨rfl, rfl⟩))
  all_goals go_ret2
  all_goals refine ⟨ret_ib ?_ ?_, (Below.refl _ _).alloc (Nat.le_refl _) _⟩
  all_goals simp only [beq_iff_eq, beq_eq_false_iff_ne, ne_eq] at *
  all_goals simp [valueP, *]
end Go.Proofs.Ytggchfdjpfodfaa.K
set_option linter.unusedVariables false
set_option linter.unusedSimpArgs false
namespace Go.Proofs.Ytggchfdjpfodfaa.K
open Go.RowKit Go.Proofs.YtggchfdjpfodfaaW.PrintWords Go.Proofs.YtggchfdjpfodfaaW.PrintLast Go.Proofs.YtggchfdjpfodfaaW.PrintMore Go.Proofs.Ytggchfdjpfodfaa.G
open Sp

def setsP (op d : Int) : Int := if op = 1 ∨ op = 2 ∨ op = 3 ∨ op = 4 ∨ op = 6 ∨ op = 8 then d else -1
theorem ret_i {k : IntKind} {a a' : Int} (h : a = a') : Ending.returned (.int k a) = .returned (.int k a') := by rw [h]
set_option maxHeartbeats 1000000 in
set_option maxRecDepth 100000 in
theorem sets_calls (op d a c k ba sz nn : Int) (w : World) :
    Calls Try.prog 24 #[.agg #[.int .i64 op, .int .i64 d, .int .i64 a, .int .i64 c, .int .i64 k, .int .i64 ba, .int .i64 sz, .int .u32 nn]] w fun e w' => e = .returned (.int .i64 (setsP op d)) ∧ Below w.heap.size w w' := by
  have hu48 := Try.underlying48
  go_enter Try.func24, Try.ntmps24
  go_wp2
  all_goals go_ret
  all_goals refine ⟨ret_i ?_, (Below.refl _ _).alloc (Nat.le_refl _) _⟩
  all_goals simp only [beq_iff_eq, beq_eq_false_iff_ne, ne_eq] at *
  all_goals simp [setsP, *]

def foldP (M : Int → Option Int) (t : S48) : S48 × (Int → Option Int) :=
  if setsP t.f0 t.f1 < 0 then (t, M)
  else if (valueP M t.f0 t.f2 t.f3 t.f4 t.f7).2 = true then (⟨1, t.f1, 0, 0, 0, 0, 0, (valueP M t.f0 t.f2 t.f3 t.f4 t.f7).1⟩, IM.upd M t.f1 (some (valueP M t.f0 t.f2 t.f3 t.f4 t.f7).1))
  else (t, IM.upd M t.f1 none)
def enc48 (t : S48) : Value := .agg #[.int .i64 t.f0, .int .i64 t.f1, .int .i64 t.f2, .int .i64 t.f3, .int .i64 t.f4, .int .i64 t.f5, .int .i64 t.f6, .int .u32 t.f7]

theorem bcell {W w1 : World} (hb : Below W.heap.size W w1) : (∀ b o, b < W.heap.size → w1.cell? ⟨b, o, none⟩ = W.cell? ⟨b, o, none⟩) ∧ (∀ b o, b < W.heap.size → w1.frozen? ⟨b, o, none⟩ = W.frozen? ⟨b, o, none⟩) :=
  ⟨fun b o h => hb.cell (p := ⟨b, o, none⟩) h, fun b o h => hb.frozen (p := ⟨b, o, none⟩) h⟩

theorem gcell {W w1 : World} {b : Nat} (hg : W.grownBy w1 (some b)) : (∀ c (o : Nat), c < W.heap.size → c ≠ b → w1.cell? ⟨c, o, none⟩ = W.cell? ⟨c, o, none⟩) ∧ (∀ c o, c < W.heap.size → c ≠ b → w1.frozen? ⟨c, o, none⟩ = W.frozen? ⟨c, o, none⟩) :=
  ⟨fun c _ h hne => World.cell?_of_block (w := W) (hg.block c h (fun e => hne (Option.some.inj e))), fun c _ h hne => World.frozen?_of_block (w := W) (hg.block c h (fun e => hne (Option.some.inj e)))⟩
theorem gr_set {w W : World} {row : Option Nat} (h : w.grownBy W row) {p : Addr} (hp : w.heap.size ≤ p.block) (u : Value) : w.grownBy (W.setCell p u) row :=
  ⟨h.os, h.tape, h.output, by simpa [World.setCell] using h.size, fun i hi hne => by rw [Below.heap_setCell _ _ _ _ (by omega)]; exact h.block i hi hne⟩
theorem gr_below {w W W' : World} {row : Option Nat} (h : w.grownBy W row) (hb : Below W.heap.size W W') : w.grownBy W' row := World.grownBy.trans h (grown_of_below hb row)
theorem gr_alloc {w W : World} {row : Option Nat} (h : w.grownBy W row) (o : Obj) : w.grownBy (W.alloc o) row := World.grownBy.trans h (World.grownBy_alloc _ _ _)

set_option maxHeartbeats 1000000 in
set_option maxRecDepth 100000 in
theorem fold_calls (b n : Nat) (M : Int → Option Int) (t0 t1 t2 t3 t4 t5 t6 t7 : Int) (w : World) (hm : KM w b n M) (hn : n < 1000000) (hM : Words M) (hd : (Lit.int .i64 t1).wf = true) (ha : (Lit.int .i64 t2).wf = true) (hc : (Lit.int .i64 t3).wf = true)
    (hv : W32 (valueP M t0 t2 t3 t4 t7).1) :
    Calls Try.prog 18 #[.map (some b), .agg #[.int .i64 t0, .int .i64 t1, .int .i64 t2, .int .i64 t3, .int .i64 t4, .int .i64 t5, .int .i64 t6, .int .u32 t7]] w fun e w' =>
      e = .returned (enc48 (foldP M ⟨t0, t1, t2, t3, t4, t5, t6, t7⟩).1) ∧ KM w' b (n + 1) (foldP M ⟨t0, t1, t2, t3, t4, t5, t6, t7⟩).2 ∧ w.grownBy w' (some b) := by
  have hu48 := Try.underlying48
  have hlt := hm.lt
  obtain ⟨fp, hfp⟩ : ∃ fp, fp = foldP M ⟨t0, t1, t2, t3, t4, t5, t6, t7⟩ := ⟨_, rfl⟩
  rw [← hfp]
  have HF := Aside0.mk hfp
  clear hfp
  go_enter Try.func18, Try.ntmps18
  go_wp2_with (fail)
  refine (sets_calls _ _ _ _ _ _ _ _ _).mono ?_
  rintro e w1 ⟨rfl, hb⟩
  obtain ⟨hc1, hf1⟩ := bcell hb
  have hz : w.heap.size + 1 < w1.heap.size := by have := hb.size; simp at this; omega
  have g1 : w.grownBy w1 (some b) := gr_below (gr_alloc (gr_alloc (World.grownBy.refl w (some b)) _) _) hb
  have hm1 : KM w1 b n M := IM.Is.same ((hm.alloc _).alloc _) (hb.block b (by simp; omega))
  have hzb : b ≠ w.heap.size + 1 := by omega
  go_wp2_with (fail)
  · have hs : setsP t0 t1 < 0 := by assumption
    have e : fp = (⟨t0, t1, t2, t3, t4, t5, t6, t7⟩, M) := by rw [HF.out]; unfold foldP; rw [if_pos hs]
    subst e
    refine bodyPost_ret (v := enc48 ⟨t0, t1, t2, t3, t4, t5, t6, t7⟩) (by simp [results, Try.results18, go_sem, enc48, hc1]) rfl ⟨rfl, ?_, ?_⟩
    · iterate 8 refine IM.Is.setCell ?_ hzb _
      exact hm1.mono (by omega)
    · iterate 8 refine gr_set ?_ (Nat.le_succ _) _
      exact g1
  · have hs : 0 ≤ setsP t0 t1 := by assumption
    have hsd : setsP t0 t1 = t1 := by unfold setsP at hs ⊢; split <;> simp_all
    have e : fp = if (valueP M t0 t2 t3 t4 t7).2 = true then (⟨1, t1, 0, 0, 0, 0, 0, (valueP M t0 t2 t3 t4 t7).1⟩, IM.upd M t1 (some (valueP M t0 t2 t3 t4 t7).1)) else (⟨t0, t1, t2, t3, t4, t5, t6, t7⟩, IM.upd M t1 none) := by rw [HF.out]; unfold foldP; rw [if_neg (by simp; omega)]
    rw [hsd] at hs
    refine (value_calls _ _ _ _ _ _ _ _ _ _ _ _ hm1 hM ha hc).mono ?_
    rintro e w2 ⟨rfl, hb2⟩
    obtain ⟨hc2, hf2⟩ := bcell hb2
    have g2 : w.grownBy w2 (some b) := gr_below g1 hb2
    have hm2 : KM w2 b n M := IM.Is.same hm1 (hb2.block b (by omega))
    have hz2 : w.heap.size + 1 < w2.heap.size := by have := hb2.size; omega
    generalize (valueP M t0 t2 t3 t4 t7) = vp at *
    obtain ⟨v, ok⟩ := vp
    cases ok
    · simp only [Bool.false_eq_true, ↓reduceIte] at e
      subst e
      rw [hsd]
      go_wp2_with (at_delete; refine IM.del rfl _ _ 62 rfl Try.underlying62 Try.underlying3 rfl hm2 t1 rfl hd ?_)
      intro w3 hm3 g3
      obtain ⟨hc3, hf3⟩ := gcell g3
      have hz3 : w.heap.size + 1 < w3.heap.size := by have := g3.size; omega
      have hne0 : w.heap.size ≠ b := by omega
      have hne1 : w.heap.size + 1 ≠ b := by omega
      have hz2' : w.heap.size < w2.heap.size := by omega
      have hz1' : w.heap.size < w1.heap.size := by omega
      go_wp2_with (fail)
      refine bodyPost_ret (v := enc48 ⟨t0, t1, t2, t3, t4, t5, t6, t7⟩) (by simp [results, Try.results18, go_sem, enc48, hc1, hc2, hc3, hz2, hz2', hz, hz1', hne0, hne1]) rfl ⟨rfl, ?_, ?_⟩
      · iterate 8 refine IM.Is.setCell ?_ hzb _
        exact hm3.mono (by omega)
      · iterate 8 refine gr_set ?_ (Nat.le_succ _) _
        exact World.grownBy.trans g2 g3
    · simp only [↓reduceIte] at e
      subst e
      rw [hsd]
      have hwv : (Lit.int .u32 v).wf = true := WalkArith.wf_u32 hv
      go_wp2_with (at_mapUpdate; refine IM.put rfl _ _ _ 62 rfl Try.underlying62 Try.underlying3 Try.underlying46 rfl hm2 (by unfold maxLen; omega) t1 v rfl hd rfl hwv ?_)
      intro w3 hm3 g3
      obtain ⟨hc3, hf3⟩ := gcell g3
      have hz3 : w.heap.size + 1 < w3.heap.size := by have := g3.size; omega
      have hne0 : w.heap.size ≠ b := by omega
      have hne1 : w.heap.size + 1 ≠ b := by omega
      have hz2' : w.heap.size < w2.heap.size := by omega
      have hz1' : w.heap.size < w1.heap.size := by omega
      go_wp2_with (fail)
      refine bodyPost_ret (v := enc48 ⟨1, t1, 0, 0, 0, 0, 0, v⟩) (by simp [results, Try.results18, go_sem, enc48, hc1, hc2, hc3, hz2, hz2', hz, hz1', hne0, hne1]) rfl ⟨rfl, ?_, ?_⟩
      · iterate 8 refine IM.Is.setCell ?_ hzb _
        exact hm3
      · iterate 8 refine gr_set ?_ (Nat.le_succ _) _
        exact World.grownBy.trans g2 g3
end Go.Proofs.Ytggchfdjpfodfaa.K
namespace Go.Proofs.Ytggchfdjpfodfaa.K
open Go.RowKit Go.Proofs.YtggchfdjpfodfaaW.PrintWords Go.Proofs.Ytggchfdjpfodfaa.G

theorem rd_mem {l : List S45} {k : Nat} (h : k < l.length) : rd_T45 l (k : Int) ∈ l := by
  unfold rd_T45
  rw [Int.toNat_natCast, List.getD_eq_getElem?_getD, List.getElem?_eq_getElem h]
  exact List.getElem_mem h
theorem take_rd {l : List S48} {k : Nat} (h : k < l.length) : l.take (k + 1) = l.take k ++ [rd_T48 l (k : Int)] := by
  unfold rd_T48
  rw [Int.toNat_natCast, List.getD_eq_getElem?_getD, List.getElem?_eq_getElem h, List.take_succ_eq_append_getElem h]
  rfl
theorem take_rd5 {l : List S45} {k : Nat} (h : k < l.length) : l.take (k + 1) = l.take k ++ [rd_T45 l (k : Int)] := by
  unfold rd_T45
  rw [Int.toNat_natCast, List.getD_eq_getElem?_getD, List.getElem?_eq_getElem h, List.take_succ_eq_append_getElem h]
  rfl
theorem rd_mem' {l : List S48} {k : Nat} (h : k < l.length) : rd_T48 l (k : Int) ∈ l := by
  unfold rd_T48
  rw [Int.toNat_natCast, List.getD_eq_getElem?_getD, List.getElem?_eq_getElem h]
  exact List.getElem_mem h

theorem rd_mem2 {l : List S29} {k : Nat} (h : k < l.length) : rd_T29 l (k : Int) ∈ l := by
  unfold rd_T29
  rw [Int.toNat_natCast, List.getD_eq_getElem?_getD, List.getElem?_eq_getElem h]
  exact List.getElem_mem h
theorem take_rd2 {l : List S29} {k : Nat} (h : k < l.length) : l.take (k + 1) = l.take k ++ [rd_T29 l (k : Int)] := by
  unfold rd_T29
  rw [Int.toNat_natCast, List.getD_eq_getElem?_getD, List.getElem?_eq_getElem h, List.take_succ_eq_append_getElem h]
  rfl
end Go.Proofs.Ytggchfdjpfodfaa.K
set_option linter.unusedVariables false
set_option linter.unusedSimpArgs false
namespace Go.Proofs.Ytggchfdjpfodfaa.K
open Go.RowKit Go.Proofs.YtggchfdjpfodfaaW.PrintWords Go.Proofs.YtggchfdjpfodfaaW.PrintLast Go.Proofs.YtggchfdjpfodfaaW.PrintMore Go.Proofs.Ytggchfdjpfodfaa.G
open Sp
attribute [local go_sem high] eqA48

/-- Is a number one of n? -/
def wB (i n : Int) : Bool := decide (0 ≤ i ∧ i < n)
theorem within_calls (i n : Int) (w : World) : Calls Try.prog 35 #[.int .i64 i, .int .i64 n] w fun e w' => e = .returned (.bool (wB i n)) ∧ w' = w := by
  by_cases h : 0 ≤ i
  · have hb : wB i n = decide (i < n) := by simp [wB, h]
    rw [hb]
    go_enter Try.func35, Try.ntmps35
    go_wp2
    go_ret
    exact ⟨rfl, rfl⟩
  · have hb : wB i n = false := by simp [wB, h]
    rw [hb]
    go_enter Try.func35, Try.ntmps35
    go_wp2
    go_ret
    exact ⟨rfl, rfl⟩

theorem ret_b {b b' : Bool} (h : b = b') : Ending.returned (.bool b) = .returned (.bool b') := by rw [h]
def arrB (ba sz words : Int) : Bool := decide (1 ≤ sz ∧ sz ≤ 4096 ∧ 0 ≤ ba ∧ ba ≤ words - sz)
theorem wB_true {i n : Int} (h : wB i n = true) : 0 ≤ i ∧ i < n := of_decide_eq_true h
theorem k_true {k : Int} (h : wB (k - 4) 12 = true) : 4 ≤ k ∧ k ≤ 15 := by have := wB_true h; omega
theorem k_false {k : Int} (h : wB (k - 4) 12 = false) : k < 4 ∨ 15 < k := by have := of_decide_eq_false h; omega
theorem arr_true {ba sz words : Int} (h : arrB ba sz words = true) : 1 ≤ sz ∧ sz ≤ 4096 ∧ 0 ≤ ba ∧ ba ≤ words - sz := of_decide_eq_true h
theorem arr_false {ba sz words : Int} (h : arrB ba sz words = false) : sz < 1 ∨ (1 ≤ sz ∧ 4096 < sz) ∨ (1 ≤ sz ∧ sz ≤ 4096 ∧ ba < 0) ∨ (1 ≤ sz ∧ sz ≤ 4096 ∧ 0 ≤ ba ∧ words - sz < ba) := by have := of_decide_eq_false h; omega


end Go.Proofs.Ytggchfdjpfodfaa.K
