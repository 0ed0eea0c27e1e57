/- fold.Of, walked: the function that comes back has the blocks that foldB says, and its certificate is as long. Condition: the registers lie between 0 and 100000, lists are no longer than 100000, and the constants are words.
   fold.Of as a plain function, and its contract in the print's form. Condition: the registers lie between 0 and 100000, lists are no longer than 100000, the constants are words. -/
import Derived.Test.YtggchfdjpfodfaaKA
import Derived.Test.YtggchfdjpfodfaaG0
import Derived.OpenShut
set_option linter.unusedVariables false
set_option linter.unusedSimpArgs false
namespace Go.Proofs.Ytggchfdjpfodfaa.K
open Go.RowKit Go.Proofs.YtggchfdjpfodfaaW.PrintWords Go.Proofs.YtggchfdjpfodfaaW.PrintLast Go.Proofs.YtggchfdjpfodfaaW.PrintMore Go.Proofs.Ytggchfdjpfodfaa.G
theorem info45 : (Try.prog.info? 45).map (fun i => (i.zero, i.size, i.bytes)) = some (some (.agg #[(.slice none 0 0), (.int .i64 0), (.int .i64 0), (.int .i64 0), (.int .i64 0)]), 5, 56) := by kernel_rfl
open Sp

def foldL : (Int → Option Int) → List S48 → List S48
  | _, [] => []
  | M, t :: l => (foldP M t).1 :: foldL (foldP M t).2 l
def foldB (b : S45) : S45 := ⟨foldL (fun _ => none) b.f0, b.f1, b.f2, b.f3, b.f4⟩

def stM : (Int → Option Int) → List S48 → (Int → Option Int)
  | M, [] => M
  | M, t :: l => stM (foldP M t).2 l
theorem foldL_snoc (l : List S48) (t : S48) : ∀ M, foldL M (l ++ [t]) = foldL M l ++ [(foldP (stM M l) t).1] := by
  induction l with
  | nil => intro M; rfl
  | cons x l ih => intro M; simp only [List.cons_append, foldL, stM, ih]
theorem stM_snoc (l : List S48) (t : S48) : ∀ M, stM M (l ++ [t]) = (foldP (stM M l) t).2 := by
  induction l with
  | nil => intro M; rfl
  | cons x l ih => intro M; simp only [List.cons_append, stM, ih]
theorem foldL_length (l : List S48) : ∀ M, (foldL M l).length = l.length := by
  induction l with
  | nil => intro M; rfl
  | cons x l ih => intro M; simp only [foldL, List.length_cons, ih]
/-- An instruction whose numbers are words and numbers of their kinds. -/
def OkI (t : S48) : Prop := (Lit.int .i64 t.f1).wf = true ∧ (Lit.int .i64 t.f2).wf = true ∧ (Lit.int .i64 t.f3).wf = true ∧ W32 t.f7

theorem value_word {M : Int → Option Int} (hM : Words M) {op a c k nn : Int} (h : W32 nn) : W32 (valueP M op a c k nn).1 := by
  unfold valueP
  split
  · exact h
  · split
    · exact hM.getD _
    · split
      · exact app_word _ (hM.getD _) (hM.getD _)
      · exact ⟨by simp, by simp⟩
theorem words_fold {M : Int → Option Int} (hM : Words M) {t : S48} (h : OkI t) : Words (foldP M t).2 := by
  unfold foldP
  split
  · exact hM
  · split
    · intro i v hv
      simp only [IM.upd] at hv
      split at hv
      · obtain rfl := Option.some.inj hv
        exact value_word hM h.2.2.2
      · exact hM i v hv
    · intro i v hv
      simp only [IM.upd] at hv
      split at hv
      · cases hv
      · exact hM i v hv
theorem words_stM' (l : List S48) : ∀ M, Words M → (∀ t ∈ l, OkI t) → Words (stM M l) := by
  induction l with
  | nil => intro M h _; exact h
  | cons t l ih => intro M h hl; exact ih _ (words_fold h (hl t (by simp))) (fun x hx => hl x (by simp [hx]))
theorem words_stM (l : List S48) (hl : ∀ t ∈ l, OkI t) : Words (stM (fun _ => none) l) := words_stM' l _ (fun i v h => by cases h) hl
/-- Within a block: what its rounds keep. -/
structure In (w1 wr : World) (gx gm : Nat) (b : S45) (vx : Value) (j n : Nat) (M : Int → Option Int) : Prop where
  bx : wr.heap[gx]? = some (.cells #[vx, .int .i64 b.f1, .int .i64 b.f2, .int .i64 b.f3, .int .i64 b.f4] 45 (0, 0))
  rx : Kd.R k48 48 wr w1.heap.size (fun _ => True) vx (foldL (fun _ => none) (b.f0.take j))
  km : KM wr gm n M
  hn : n ≤ j
  hM : M = stM (fun _ => none) (b.f0.take j)
  gr : w1.grownBy wr (some gm)

/-- What the call keeps between the rounds: its own blocks, and what has been made. -/
structure St (w wr : World) (g1 g2 g3 g4 g5 gm : Nat) (regs : Int) (A : Option Addr) (nb c : Nat) (vB vS : Value) (bs : List S45) (ss : List (List Bool)) (n : Nat) (M : Int → Option Int) : Prop where
  b1 : wr.heap[g1]? = some (.cells #[.int .i64 regs, .slice A nb c] 29 (0, 0))
  b2 : wr.heap[g2]? = some (.cells #[.int .i64 0, .slice none 0 0] 29 (0, 0))
  b3 : wr.heap[g3]? = some (.cells #[.slice none 0 0] 32 (0, 0))
  b4 : wr.heap[g4]? = some (.cells #[.int .i64 regs, vB] 29 (0, 0))
  b5 : wr.heap[g5]? = some (.cells #[vS] 32 (0, 0))
  rB : Kd.S k45 45 wr w.heap.size (fun _ => True) vB bs
  rS : Kd.S (Kd.slice 4 Kd.bool) 60 wr w.heap.size (fun _ => True) vS ss
  km : KM wr gm n M
  below : Below w.heap.size w wr

theorem R_offMap {α : Type} {d : Kd α} {e base gm : Nat} {ok : Nat → Prop} {w w1 : World} {v : Value} {xs : List α} {es : Array MapEntry} {cl : Nat} (h : d.R e w base ok v xs) (hm : w.heap[gm]? = some (.map es cl)) (hk : ∀ k, k < w.heap.size → k ≠ gm → w1.heap[k]? = w.heap[k]?) : d.R e w1 base ok v xs :=
  Kd.R_mono (Kd.R_step (Kd.R_bound h) (fun k ho hlt => hk k hlt (by
    rintro rfl
    obtain ⟨_, _, _, q, _, cells, hc⟩ := ho
    rw [hm] at hc
    injection hc with hc
    cases hc))) (fun _ hk => hk.1)
theorem S_offMap {α : Type} {d : Kd α} {e base gm : Nat} {ok : Nat → Prop} {w w1 : World} {v : Value} {xs : List α} {es : Array MapEntry} {cl : Nat} (h : Kd.S d e w base ok v xs) (hm : w.heap[gm]? = some (.map es cl)) (hk : ∀ k, k < w.heap.size → k ≠ gm → w1.heap[k]? = w.heap[k]?) : Kd.S d e w1 base ok v xs := by
  obtain ⟨f, h⟩ := h
  exact ⟨f, R_offMap h hm hk⟩
/-- The facts move on: nothing of old but the map's block has been written. -/
theorem St.move {w wr w1 : World} {g1 g2 g3 g4 g5 gm : Nat} {regs : Int} {A : Option Addr} {nb c : Nat} {vB vS : Value} {bs : List S45} {ss : List (List Bool)} {n n' : Nat} {M M' : Int → Option Int}
    (h : St w wr g1 g2 g3 g4 g5 gm regs A nb c vB vS bs ss n M) (hg : wr.grownBy w1 (some gm)) (hw : w.heap.size ≤ gm) (km : KM w1 gm n' M') : St w w1 g1 g2 g3 g4 g5 gm regs A nb c vB vS bs ss n' M' := by
  obtain ⟨b1, b2, b3, b4, b5, rB, rS, ⟨D, ⟨es, cl, hm, _⟩, _⟩, hb⟩ := h
  have ne : ∀ {g : Nat} {cs : Array Value} {t : TypeId} {fr : Nat × Nat}, wr.heap[g]? = some (.cells cs t fr) → some g ≠ some gm := by
    intro g cs t fr hc e
    injection e with e
    subst e
    rw [hm] at hc
    injection hc with hc
    cases hc
  have hk : ∀ k, k < wr.heap.size → k ≠ gm → w1.heap[k]? = wr.heap[k]? := fun k h1 h2 => hg.block k h1 (fun e => h2 (Option.some.inj e))
  exact ⟨blk_grown b1 hg (ne b1), blk_grown b2 hg (ne b2), blk_grown b3 hg (ne b3), blk_grown b4 hg (ne b4), blk_grown b5 hg (ne b5), S_offMap rB hm hk, S_offMap rS hm hk, km, hb.grown hg hb.size (fun k e => by injection e with e; omega)⟩
theorem ne_map {wr : World} {gm g n : Nat} {M : Int → Option Int} {cs : Array Value} {t : TypeId} {fr : Nat × Nat} (km : KM wr gm n M) (hc : wr.heap[g]? = some (.cells cs t fr)) : g ≠ gm := by
  obtain ⟨D, ⟨es, cl, hm, _⟩, _⟩ := km
  rintro rfl
  rw [hm] at hc
  injection hc with hc
  cases hc
theorem gr_drew {w W : World} {row : Option Nat} (h : w.grownBy W row) : w.grownBy W.drew row := ⟨h.os, h.tape, h.output, h.size, h.block⟩
theorem R_slicen {α : Type} {d : Kd α} {e base : Nat} {ok : Nat → Prop} {w : World} {v : Value} {xs : List α} (h : d.R e w base ok v xs) : ∃ A n c, v = .slice A n c := by
  obtain ⟨A, c, h⟩ := Kd.R_slice h
  exact ⟨A, _, c, h⟩
theorem gr_own {w0 w w1 : World} {row row' : Option Nat} (h : w0.grownBy w row) (hg : w.grownBy w1 row') (hr : ∀ q, row' = some q → w0.heap.size ≤ q) : w0.grownBy w1 row :=
  ⟨hg.os.trans h.os, hg.tape.trans h.tape, hg.output.trans h.output, Nat.le_trans h.size hg.size, fun i hi hne => (hg.block i (by have := h.size; omega) (fun e => by have := hr i e.symm; omega)).trans (h.block i hi hne)⟩
theorem R_grMap {α : Type} {d : Kd α} {e base gm n : Nat} {M : Int → Option Int} {ok : Nat → Prop} {w w1 : World} {v : Value} {xs : List α} (h : d.R e w base ok v xs) (km : KM w gm n M) (hg : w.grownBy w1 (some gm)) : d.R e w1 base ok v xs := by
  obtain ⟨D, ⟨es, cl, hm, _⟩, _⟩ := km
  exact R_offMap h hm (fun k h1 h2 => hg.block k h1 (fun e => h2 (Option.some.inj e)))
theorem S_grMap {α : Type} {d : Kd α} {e base gm n : Nat} {M : Int → Option Int} {ok : Nat → Prop} {w w1 : World} {v : Value} {xs : List α} (h : Kd.S d e w base ok v xs) (km : KM w gm n M) (hg : w.grownBy w1 (some gm)) : Kd.S d e w1 base ok v xs := by
  obtain ⟨f, h⟩ := h
  exact ⟨f, R_grMap h km hg⟩
theorem R_grTy {α : Type} {d : Kd α} {e e' base : Nat} {ok : Nat → Prop} {w w1 : World} {v u : Value} {xs : List α} (h : d.R e w base ok v xs) (hu : ∀ q, u.ownBlock = some q → ∃ cells, w.heap[q]? = some (.cells cells e' (0, 0))) (ht : ∀ q, q ∈ e :: d.E → q ≠ e') (hg : w.grownBy w1 u.ownBlock) : d.R e w1 base ok v xs :=
  Kd.R_mono (Kd.R_grown (Kd.R_apart' h hu ht) hg (fun k hk => hk.2)) (fun k hk => hk.1)
theorem S_grTy {α : Type} {d : Kd α} {e e' base : Nat} {ok : Nat → Prop} {w w1 : World} {v u : Value} {xs : List α} (h : Kd.S d e w base ok v xs) (hu : ∀ q, u.ownBlock = some q → ∃ cells, w.heap[q]? = some (.cells cells e' (0, 0))) (ht : ∀ q, q ∈ e :: d.E → q ≠ e') (hg : w.grownBy w1 u.ownBlock) : Kd.S d e w1 base ok v xs := by
  obtain ⟨f, h⟩ := h
  exact ⟨f, R_grTy h hu ht hg⟩
theorem R_ty {α : Type} {d : Kd α} {e base : Nat} {ok : Nat → Prop} {w : World} {v : Value} {xs : List α} (h : d.R e w base ok v xs) : ∀ q, v.ownBlock = some q → ∃ cells, w.heap[q]? = some (.cells cells e (0, 0)) := by
  intro q hq
  obtain ⟨inner, ho⟩ := Kd.R_own h
  exact own_typed ho q hq
theorem R_mapne {α : Type} {d : Kd α} {e base gm n : Nat} {M : Int → Option Int} {ok : Nat → Prop} {w : World} {v : Value} {xs : List α} (h : d.R e w base ok v xs) (km : KM w gm n M) : some gm ≠ v.ownBlock := fun e => by
  obtain ⟨cells, hc⟩ := R_ty h _ e.symm
  exact ne_map km hc rfl
theorem set_rep {n q : Nat} (h : q < n) : (List.replicate q true ++ List.replicate (n - q) false).set q true = List.replicate (q + 1) true ++ List.replicate (n - (q + 1)) false := by
  rw [List.set_append_right _ _ (by simp), List.length_replicate, Nat.sub_self, show n - q = (n - (q + 1)) + 1 by omega, List.replicate_succ, List.set_cons_zero, List.replicate_succ']
  simp
section
variable {w wr w2 : World} {g1 g2 g3 g4 g5 gm : Nat} {regs : Int} {A : Option Addr} {nb c : Nat} {vB vS v1 : Value} {bs : List S45} {ss : List (List Bool)} {n : Nat} {M : Int → Option Int}
theorem St.mid (h : St w wr g1 g2 g3 g4 g5 gm regs A nb c vB vS bs ss n M) (hg : wr.grownBy w2 vB.ownBlock) {g : Nat} {cs : Array Value} {t : TypeId} (hb : wr.heap[g]? = some (.cells cs t (0, 0))) (ht : 45 ≠ t) : w2.heap[g]? = some (.cells cs t (0, 0)) := blk_grown hb hg (Kd.R_ne (Kd.S_R h.rB) hb ht)
theorem St.mid5 (h : St w wr g1 g2 g3 g4 g5 gm regs A nb c vB vS bs ss n M) (hg : wr.grownBy w2 vS.ownBlock) {g : Nat} {cs : Array Value} {t : TypeId} (hb : wr.heap[g]? = some (.cells cs t (0, 0))) (ht : 60 ≠ t) : w2.heap[g]? = some (.cells cs t (0, 0)) := blk_grown hb hg (Kd.R_ne (Kd.S_R h.rS) hb ht)
theorem St.old (h : St w wr g1 g2 g3 g4 g5 gm regs A nb c vB vS bs ss n M) (hb : Below wr.heap.size wr w2) : St w w2 g1 g2 g3 g4 g5 gm regs A nb c vB vS bs ss n M :=
  ⟨blk_below h.b1 hb, blk_below h.b2 hb, blk_below h.b3 hb, blk_below h.b4 hb, blk_below h.b5 hb, Kd.S_below h.rB hb, Kd.S_below h.rS hb, IM.Is.same h.km (hb.block _ h.km.lt), below_then h.below h.below.size hb⟩
theorem St.app (h : St w wr g1 g2 g3 g4 g5 gm regs A nb c vB vS bs ss n M) (h1 : g1 ≠ g4) (h2 : g2 ≠ g4) (h3 : g3 ≠ g4) (h5 : g5 ≠ g4) (hm : gm ≠ g4) (hw : w.heap.size ≤ g4) {bs' : List S45} (hR : Kd.S k45 45 w2 w.heap.size (fun _ => True) v1 bs') (hg : wr.grownBy w2 vB.ownBlock) :
    St w (w2.setCell ⟨g4, 1, none⟩ v1) g1 g2 g3 g4 g5 gm regs A nb c v1 vS bs' ss n M := by
  have b4' := h.mid hg h.b4 (by decide)
  exact ⟨blk_far (h.mid hg h.b1 (by decide)) h1 _, blk_far (h.mid hg h.b2 (by decide)) h2 _, blk_far (h.mid hg h.b3 (by decide)) h3 _, blk_put b4' 1 _ rfl, blk_far (h.mid hg h.b5 (by decide)) h5 _,
    Kd.S_set hR b4' (by decide) 1 _, Kd.S_set (S_grTy h.rS (R_ty (Kd.S_R h.rB)) (by decide) hg) b4' (by decide) 1 _, (h.km.kept hg (R_mapne (Kd.S_R h.rB) h.km)).setCell hm _, (h.below.grown hg h.below.size (fun q e => (Kd.R_bound (Kd.S_R h.rB)).1 q e |>.2.1)).setCell hw _⟩
theorem St.app5 (h : St w wr g1 g2 g3 g4 g5 gm regs A nb c vB vS bs ss n M) (h1 : g1 ≠ g5) (h2 : g2 ≠ g5) (h3 : g3 ≠ g5) (h4 : g4 ≠ g5) (hm : gm ≠ g5) (hw : w.heap.size ≤ g5) {ss' : List (List Bool)} (hR : Kd.S (Kd.slice 4 Kd.bool) 60 w2 w.heap.size (fun _ => True) v1 ss') (hg : wr.grownBy w2 vS.ownBlock) :
    St w (w2.setCell ⟨g5, 0, none⟩ v1) g1 g2 g3 g4 g5 gm regs A nb c vB v1 bs ss' n M := by
  have b5' := h.mid5 hg h.b5 (by decide)
  exact ⟨blk_far (h.mid5 hg h.b1 (by decide)) h1 _, blk_far (h.mid5 hg h.b2 (by decide)) h2 _, blk_far (h.mid5 hg h.b3 (by decide)) h3 _, blk_far (h.mid5 hg h.b4 (by decide)) h4 _, blk_put b5' 0 _ rfl,
    Kd.S_set (S_grTy h.rB (R_ty (Kd.S_R h.rS)) (by decide) hg) b5' (by decide) 0 _, Kd.S_set hR b5' (by decide) 0 _, (h.km.kept hg (R_mapne (Kd.S_R h.rS) h.km)).setCell hm _, (h.below.grown hg h.below.size (fun q e => (Kd.R_bound (Kd.S_R h.rS)).1 q e |>.2.1)).setCell hw _⟩
end
theorem blk_here {W : World} {g : Nat} (o : Obj) (h : g = W.heap.size) : (W.alloc o).heap[g]? = some o := by subst h; exact blk_new _ _
theorem km_here {W : World} {g : Nat} (h : g = W.heap.size) : KM (W.alloc (.map #[] 0)) g 0 (fun _ => none) := by subst h; exact IM.Is.made _

set_option maxHeartbeats 1000000 in
set_option maxRecDepth 100000 in
theorem of_calls (regs : Int) (A : Option Addr) (c : Nat) (l : List S45) (w : World) (hr : Kd.C k45 w A l.length l) (hc : l.length ≤ c) (h0 : 0 ≤ regs) (h1 : regs ≤ 100000) (hl : l.length ≤ 100000) (hi : ∀ b ∈ l, b.f0.length ≤ 100000) (hok : ∀ b ∈ l, ∀ t ∈ b.f0, OkI t) :
    Calls Try.prog 11 #[.agg #[.int .i64 regs, .slice A l.length c]] w fun e w' => ∃ v1 v2 : Value, e = .returned (.tuple #[.agg #[.int .i64 regs, v1], .agg #[v2]]) ∧
      Kd.S k45 45 w' w.heap.size (fun _ => True) v1 (l.map foldB) ∧ Kd.S (Kd.slice 4 Kd.bool) 60 w' w.heap.size (fun _ => True) v2 (l.map fun _ => List.replicate regs.toNat true) ∧ Below w.heap.size w w' := by
  have hu29 := Try.underlying29
  have hu32 := Try.underlying32
  have hu45 := Try.underlying45
  have hu48 := Try.underlying48
  have hmm := @run_makeMap Try.prog
  go_enter Try.func11, Try.ntmps11
  go_wp2_with (fail)
  go_loopw [21] (fun i wr => ∃ (k n : Nat) (M : Int → Option Int) (vB vS : Value), k ≤ l.length ∧ i = .int .i64 k ∧ Aside0 (St w wr w.heap.size (w.heap.size + 1) (w.heap.size + 1 + 1) (w.heap.size + 1 + 1 + 1) (w.heap.size + 1 + 1 + 1 + 1) (w.heap.size + 1 + 1 + 1 + 1 + 1) regs A l.length c vB vS ((l.take k).map foldB) ((l.take k).map fun _ => List.replicate regs.toNat true) n M))
    (fun i _ => l.length - (intOf i).toNat)
  case atStart =>
    refine ⟨0, 0, fun _ => none, .slice none 0 0, .slice none 0 0, Nat.zero_le _, rfl, ⟨⟨?_, ?_, ?_, ?_, ?_, ?_, ?_, ?_, ?_⟩⟩⟩
    · exact blk_alloc (blk_alloc (blk_alloc (blk_alloc (blk_alloc (blk_here _ (by simp)) _) _) _) _) _
    · exact blk_alloc (blk_alloc (blk_alloc (blk_alloc (blk_here _ (by simp)) _) _) _) _
    · exact blk_alloc (blk_alloc (blk_alloc (blk_here _ (by simp)) _) _) _
    · exact blk_alloc (blk_alloc (blk_here _ (by simp)) _) _
    · exact blk_alloc (blk_here _ (by simp)) _
    · exact Kd.S_nil _ _ _ _ _
    · exact Kd.S_nil _ _ _ _ _
    · exact km_here (by simp)
    · exact below_alloc (below_alloc (below_alloc (below_alloc (below_alloc (below_alloc (Below.refl _ _) _) _) _) _) _) _
  case round =>
    obtain ⟨k, n, M, vB, vS, hk, rfl, HS⟩ := hrel
    obtain ⟨wo, rfl⟩ : ∃ wo : World, wo = wr := ⟨_, rfl⟩
    by_cases hlt : k < l.length
    · obtain ⟨b1, b2, b3, b4, b5, rB, rS, km, hb⟩ := HS.out
      obtain ⟨ad, A0, c0, rfl, x0, x1, x2, x3, x4, hlen0, hC0⟩ := at_T45 hr (k : Int) (by omega) (by omega)
      replace x0 := pw_cell_below hb x0
      replace x1 := pw_cell_below hb x1
      replace x2 := pw_cell_below hb x2
      replace x3 := pw_cell_below hb x3
      replace x4 := pw_cell_below hb x4
      simp only [Int.toNat_natCast] at x0 x1 x2 x3 x4
      generalize hbk : rd_T45 l (k : Int) = b at *
      have Hbk := Aside0.mk hbk
      clear hbk
      go_wp2_with ((with_reducible refine gate_builtin (b := .clear) (xs := #[.tmp 25]) rfl ?_); refine IM.clr rfl (.tmp 25) 62 rfl Try.underlying62 rfl (km.alloc _) ?_)
      intro w1 km1 g1
      have bb0 := blk_new wo (.cells #[.slice A0 b.f0.length c0, .int .i64 b.f1, .int .i64 b.f2, .int .i64 b.f3, .int .i64 b.f4] 45)
      have nb := ne_map (km.alloc _) bb0
      have bb := blk_grown bb0 g1 (fun e => nb (Option.some.inj e))
      have HS1 := Aside0.mk (HS.out.move (World.grownBy.trans (World.grownBy_alloc _ _ _) g1) (by omega) km1)
      clear bb0 nb km b1 b2 b3 b4 b5 rB rS hb x0 x1 x2 x3 x4 HS
      have hcz0 : w1.cell? ⟨wo.heap.size, 0, none⟩ = some (.slice A0 b.f0.length c0) := (blk_cell bb 0).trans rfl
      have hcz1 : w1.cell? ⟨wo.heap.size, 1, none⟩ = some (.int .i64 b.f1) := (blk_cell bb 1).trans rfl
      have hcz2 : w1.cell? ⟨wo.heap.size, 2, none⟩ = some (.int .i64 b.f2) := (blk_cell bb 2).trans rfl
      have hcz3 : w1.cell? ⟨wo.heap.size, 3, none⟩ = some (.int .i64 b.f3) := (blk_cell bb 3).trans rfl
      have hcz4 : w1.cell? ⟨wo.heap.size, 4, none⟩ = some (.int .i64 b.f4) := (blk_cell bb 4).trans rfl
      have hzz := blk_lt bb
      go_wp2_with (fail)
      go_loopw [38] (fun i wr => ∃ (j n : Nat) (M : Int → Option Int) (vx : Value), j ≤ b.f0.length ∧ i = .int .i64 j ∧ Aside0 (In w1 wr w1.heap.size (w.heap.size + 1 + 1 + 1 + 1 + 1) b vx j n M)) (fun i _ => b.f0.length - (intOf i).toNat)
      case atStart =>
        refine ⟨0, 0, fun _ => none, .slice none 0 0, Nat.zero_le _, rfl, ⟨⟨blk_new _ _, Kd.R_nil _ _ _ _ _, km1.alloc _, Nat.le_refl _, rfl, World.grownBy_alloc _ _ _⟩⟩⟩
      case round =>
        obtain ⟨j, n1, M1, vx, hj, rfl, HI⟩ := hrel
        obtain ⟨wi, rfl⟩ : ∃ wi : World, wi = wr := ⟨_, rfl⟩
        by_cases hlj : j < b.f0.length
        · obtain ⟨bx, rx, km2, hn1, hM1, gr1⟩ := HI.out
          have hbi : Below w.heap.size w wi := HS1.out.below.grown gr1 HS1.out.below.size (fun q e => by injection e with e; omega)
          obtain ⟨ai, rfl, y0, y1, y2, y3, y4, y5, y6, y7⟩ := at_T48 (Kd.C_below hC0 hbi) (j : Int) (by omega) (by omega)
          simp only [Int.toNat_natCast] at y0 y1 y2 y3 y4 y5 y6 y7
          generalize htj : rd_T48 b.f0 (j : Int) = t at *
          have Htj := Aside0.mk htj
          clear htj
          go_upto_region 12 with (fail)
          have bt2 := blk_drew (blk_new wi (.cells #[.int .i64 t.f0, .int .i64 t.f1, .int .i64 t.f2, .int .i64 t.f3, .int .i64 t.f4, .int .i64 t.f5, .int .i64 t.f6, .int .u32 t.f7] 48))
          have bx2 := blk_drew (blk_alloc bx (.cells #[.int .i64 t.f0, .int .i64 t.f1, .int .i64 t.f2, .int .i64 t.f3, .int .i64 t.f4, .int .i64 t.f5, .int .i64 t.f6, .int .u32 t.f7] 48))
          have rx2 := Kd.R_drew (Kd.R_alloc rx (.cells #[.int .i64 t.f0, .int .i64 t.f1, .int .i64 t.f2, .int .i64 t.f3, .int .i64 t.f4, .int .i64 t.f5, .int .i64 t.f6, .int .u32 t.f7] 48))
          have km3 : KM (wi.alloc (.cells #[.int .i64 t.f0, .int .i64 t.f1, .int .i64 t.f2, .int .i64 t.f3, .int .i64 t.f4, .int .i64 t.f5, .int .i64 t.f6, .int .u32 t.f7] 48)).drew _ n1 M1 := (km2.alloc _).drew
          have gr2 := World.grownBy.trans gr1 (World.grownBy_alloc wi (.cells #[.int .i64 t.f0, .int .i64 t.f1, .int .i64 t.f2, .int .i64 t.f3, .int .i64 t.f4, .int .i64 t.f5, .int .i64 t.f6, .int .u32 t.f7] 48) (some (w.heap.size + 1 + 1 + 1 + 1 + 1)))
          have gr3 : w1.grownBy (wi.alloc (.cells #[.int .i64 t.f0, .int .i64 t.f1, .int .i64 t.f2, .int .i64 t.f3, .int .i64 t.f4, .int .i64 t.f5, .int .i64 t.f6, .int .u32 t.f7] 48)).drew (some (w.heap.size + 1 + 1 + 1 + 1 + 1)) := gr_drew gr2
          clear gr2 bx km2 rx gr1
          have nxt : w1.heap.size ≠ wi.heap.size := by have := HI.out.bx; have := blk_lt this; omega
          have hOk := Aside0.mk (hok b (by rw [← Hbk.out]; exact rd_mem hlt) t (by rw [← Htj.out]; exact rd_mem' hlj))
          have hbl := hi b (by rw [← Hbk.out]; exact rd_mem hlt)
          have hMW := Aside0.mk (show Words M1 from hM1 ▸ words_stM _ (fun t ht => hok b (by rw [← Hbk.out]; exact rd_mem hlt) t (List.mem_of_mem_take ht)))
          have hVW := Aside0.mk (value_word hMW.out hOk.out.2.2.2 (op := t.f0) (a := t.f2) (c := t.f3) (k := t.f4))
          refine start_ (n := 9) (S := fun w' => w'.cell? ⟨w1.heap.size, 0, none⟩ = some vx ∧ w'.cell? ⟨wi.heap.size, 0, none⟩ = some (.int .i64 t.f0) ∧ w'.cell? ⟨wi.heap.size, 1, none⟩ = some (.int .i64 t.f1) ∧ w'.cell? ⟨wi.heap.size, 2, none⟩ = some (.int .i64 t.f2) ∧ w'.cell? ⟨wi.heap.size, 3, none⟩ = some (.int .i64 t.f3) ∧ w'.cell? ⟨wi.heap.size, 4, none⟩ = some (.int .i64 t.f4) ∧ w'.cell? ⟨wi.heap.size, 5, none⟩ = some (.int .i64 t.f5) ∧ w'.cell? ⟨wi.heap.size, 6, none⟩ = some (.int .i64 t.f6) ∧ w'.cell? ⟨wi.heap.size, 7, none⟩ = some (.int .u32 t.f7)) (ds := [8]) #[false, false, false, false, false, false, false, false, false] (by kernel_rfl) rfl rfl ⟨(blk_cell bx2 0).trans rfl, (blk_cell bt2 0).trans rfl, (blk_cell bt2 1).trans rfl, (blk_cell bt2 2).trans rfl, (blk_cell bt2 3).trans rfl, (blk_cell bt2 4).trans rfl, (blk_cell bt2 5).trans rfl, (blk_cell bt2 6).trans rfl, (blk_cell bt2 7).trans rfl⟩ (fun hHeld => ?_)
          generalize (wi.alloc (.cells #[.int .i64 t.f0, .int .i64 t.f1, .int .i64 t.f2, .int .i64 t.f3, .int .i64 t.f4, .int .i64 t.f5, .int .i64 t.f6, .int .u32 t.f7] 48)).drew = W at *
          refine pure_ (i := 0) (N := some 42) (v := ?_) (a' := ?_) #[true, false, false, false, false, false, false, false, false] rfl rfl (by kernel_rfl) (fun _ _ _ h => h) (Or.inl ⟨by rfl, ?_⟩) ?_ ?_
          rotate_left
          · intro w'
            go_simp
            with_reducible rfl
          rotate_left
          · simp only [Act.put, List.setIfInBounds_toArray, List.set_cons_zero, List.set_cons_succ, i64_w, i32_w]
            rfl
          refine take_ (i := 1) (N := some 43) (v := ?_) (a' := ?_) #[true, true, false, false, false, false, false, false, false] rfl rfl (by kernel_rfl) (fun _ _ _ h => h) (Or.inl ⟨by rfl, ?_⟩) hHeld ?_ ?_
          rotate_left
          · rintro w' ⟨s0, s1, s2, s3, s4, s5, s6, s7, s8⟩
            go_simp
            with_reducible rfl
          rotate_left
          · simp only [Act.put, List.setIfInBounds_toArray, List.set_cons_zero, List.set_cons_succ, i64_w, i32_w]
            rfl
          refine pure_ (i := 2) (N := some 44) (v := ?_) (a' := ?_) #[true, true, true, false, false, false, false, false, false] rfl rfl (by kernel_rfl) (fun _ _ _ h => h) (Or.inl ⟨by rfl, ?_⟩) ?_ ?_
          rotate_left
          · intro w'
            go_simp
            with_reducible rfl
          rotate_left
          · simp only [Act.put, List.setIfInBounds_toArray, List.set_cons_zero, List.set_cons_succ, i64_w, i32_w]
            rfl
          refine take_ (i := 3) (N := some 45) (v := ?_) (a' := ?_) #[true, true, true, true, false, false, false, false, false] rfl rfl (by kernel_rfl) (fun _ _ _ h => h) (Or.inl ⟨by rfl, ?_⟩) hHeld ?_ ?_
          rotate_left
          · rintro w' ⟨s0, s1, s2, s3, s4, s5, s6, s7, s8⟩
            go_simp
            with_reducible rfl
          rotate_left
          · simp only [Act.put, List.setIfInBounds_toArray, List.set_cons_zero, List.set_cons_succ, i64_w, i32_w]
            rfl
          refine one_ (i := 4) (N := some 46) #[true, true, true, true, true, false, false, false, false] rfl rfl (by kernel_rfl) (by decide) (fun K hK => ?_)
          refine goes_ Try.func18 (by kernel_rfl) rfl #[.map (some (w.heap.size + 1 + 1 + 1 + 1 + 1)), .agg #[.int .i64 t.f0, .int .i64 t.f1, .int .i64 t.f2, .int .i64 t.f3, .int .i64 t.f4, .int .i64 t.f5, .int .i64 t.f6, .int .u32 t.f7]] (by rfl) rfl rfl (by (try simp only [List.map_toArray, List.map_cons, List.map_nil]); first | done | rfl) ?_
          refine (fold_calls _ n1 M1 _ _ _ _ _ _ _ _ W km3 (by omega) hMW.out hOk.out.1 hOk.out.2.1 hOk.out.2.2.1 hVW.out).mono ?_
          rintro e w2 ⟨rfl, km4, gr4⟩
          refine ⟨_, rfl, ?_⟩
          have bt3 := blk_grown bt2 gr4 (fun e => ne_map km3 bt2 (Option.some.inj e))
          have bx3 := blk_grown bx2 gr4 (fun e => ne_map km3 bx2 (Option.some.inj e))
          have rx3 := R_grMap rx2 km3 gr4
          have gr5 := World.grownBy.trans gr3 gr4
          replace km4 : KM w2 (w.heap.size + 1 + 1 + 1 + 1 + 1) (n1 + 1) (foldP M1 t).2 := km4
          clear rx2 km3 gr3 bx2 bt2
          refine hK.out _ _ ⟨(blk_cell bx3 0).trans rfl, (blk_cell bt3 0).trans rfl, (blk_cell bt3 1).trans rfl, (blk_cell bt3 2).trans rfl, (blk_cell bt3 3).trans rfl, (blk_cell bt3 4).trans rfl, (blk_cell bt3 5).trans rfl, (blk_cell bt3 6).trans rfl, (blk_cell bt3 7).trans rfl⟩ (fun hHeld => ?_)
          clear hK K
          obtain ⟨ft, hft⟩ : ∃ ft, ft = (foldP M1 t).1 := ⟨_, rfl⟩
          have hfe : enc48 (foldP M1 ⟨t.f0, t.f1, t.f2, t.f3, t.f4, t.f5, t.f6, t.f7⟩).1 = .agg #[.int .i64 ft.f0, .int .i64 ft.f1, .int .i64 ft.f2, .int .i64 ft.f3, .int .i64 ft.f4, .int .i64 ft.f5, .int .i64 ft.f6, .int .u32 ft.f7] := by rw [hft]; rfl
          rw [hfe]
          have Hft := Aside0.mk hft
          clear hfe hft
          refine norm_ (a' := ?_) ?_ ?_
          rotate_left
          · show Act.put _ (some 46) _ = _
            simp only [Act.put, List.setIfInBounds_toArray, List.set_cons_zero, List.set_cons_succ, i64_w, i32_w]
            rfl
          refine one_ (i := 5) (N := some 47) #[true, true, true, true, true, true, false, false, false] rfl rfl (by kernel_rfl) (by decide) (fun K hK => ?_)
          refine value_ (v := .slice (some ⟨w2.heap.size, 0, none⟩) 1 1) (w1 := w2.alloc (.cells #[.int .i64 ft.f0, .int .i64 ft.f1, .int .i64 ft.f2, .int .i64 ft.f3, .int .i64 ft.f4, .int .i64 ft.f5, .int .i64 ft.f6, .int .u32 ft.f7] 48)) (by rfl) rfl (by go_simp) ?_
          have bt4 := blk_alloc bt3 (.cells #[.int .i64 ft.f0, .int .i64 ft.f1, .int .i64 ft.f2, .int .i64 ft.f3, .int .i64 ft.f4, .int .i64 ft.f5, .int .i64 ft.f6, .int .u32 ft.f7] 48)
          have bx4 := blk_alloc bx3 (.cells #[.int .i64 ft.f0, .int .i64 ft.f1, .int .i64 ft.f2, .int .i64 ft.f3, .int .i64 ft.f4, .int .i64 ft.f5, .int .i64 ft.f6, .int .u32 ft.f7] 48)
          refine hK.out _ _ ⟨(blk_cell bx4 0).trans rfl, (blk_cell bt4 0).trans rfl, (blk_cell bt4 1).trans rfl, (blk_cell bt4 2).trans rfl, (blk_cell bt4 3).trans rfl, (blk_cell bt4 4).trans rfl, (blk_cell bt4 5).trans rfl, (blk_cell bt4 6).trans rfl, (blk_cell bt4 7).trans rfl⟩ (fun hHeld => ?_)
          clear hK K
          refine norm_ (a' := ?_) ?_ ?_
          rotate_left
          · show Act.put _ (some 47) _ = _
            simp only [Act.put, List.setIfInBounds_toArray, List.set_cons_zero, List.set_cons_succ, i64_w, i32_w]
            rfl
          refine one_ (i := 6) (N := some 48) #[true, true, true, true, true, true, true, false, false] rfl rfl (by kernel_rfl) (by decide) (fun K hK => ?_)
          refine Kd.R_append_step k48 (w0 := w2) w1.heap.size (by rfl) (.tmp 43) (.tmp 47) 43 48 (.agg #[(.int .i64 0), (.int .i64 0), (.int .i64 0), (.int .i64 0), (.int .i64 0), (.int .i64 0), (.int .i64 0), (.int .u32 0)]) 64 rfl Try.underlying43 info48 rfl (by decide) (by omega) vx (foldL (fun _ => none) (b.f0.take j)) ft [.int .i64 ft.f0, .int .i64 ft.f1, .int .i64 ft.f2, .int .i64 ft.f3, .int .i64 ft.f4, .int .i64 ft.f5, .int .i64 ft.f6, .int .u32 ft.f7] (fun _ => True) (fun _ => False) rfl rfl (k48_mkM _ _ _ ft) (fun _ h => h.elim) (fun _ _ => trivial) rx3 (Below.refl _ _) gr5.size (by rw [foldL_length, List.length_take]; omega) (fun vy w3 rx4 hB3 hg3 hat3 => ?_)
          obtain ⟨Ay, ny, cy, rfl⟩ := R_slicen rx4
          have bt5 := blk_grown bt3 hg3 (fun e => by have := (Kd.R_bound HI.out.rx).1 _ e.symm; omega)
          have bx5 := blk_grown bx3 hg3 (Kd.R_ne rx3 bx3 (by decide))
          have nmx : some (w.heap.size + 1 + 1 + 1 + 1 + 1) ≠ vx.ownBlock := fun e => by
            obtain ⟨_, _, _, q, _, cells, hc⟩ := (Kd.R_bound rx3).1 _ e.symm
            exact ne_map km4 hc rfl
          have km5 := km4.kept hg3 nmx
          have gr6 := gr_own gr5 hg3 (fun q e => (Kd.R_bound rx3).1 q e |>.2.1)
          clear bt3 bx3 bt4 bx4 rx3 km4 gr5 hB3 hg3 hat3
          refine hK.out _ _ ⟨(blk_cell bx5 0).trans rfl, (blk_cell bt5 0).trans rfl, (blk_cell bt5 1).trans rfl, (blk_cell bt5 2).trans rfl, (blk_cell bt5 3).trans rfl, (blk_cell bt5 4).trans rfl, (blk_cell bt5 5).trans rfl, (blk_cell bt5 6).trans rfl, (blk_cell bt5 7).trans rfl⟩ (fun hHeld => ?_)
          clear hK K
          refine norm_ (a' := ?_) ?_ ?_
          rotate_left
          · show Act.put _ (some 48) _ = _
            simp only [Act.put, List.setIfInBounds_toArray, List.set_cons_zero, List.set_cons_succ, i64_w, i32_w]
            rfl
          refine one_ (i := 7) (N := some 49) #[true, true, true, true, true, true, true, true, false] rfl rfl (by kernel_rfl) (by decide) (fun K hK => ?_)
          refine value_ (v := .pointer (some ⟨w1.heap.size, 0, none⟩)) (w1 := w3) (by rfl) rfl (by go_simp) ?_
          refine hK.out _ _ hHeld (fun hHeld => ?_)
          clear hK K
          refine norm_ (a' := ?_) ?_ ?_
          rotate_left
          · show Act.put _ (some 49) _ = _
            simp only [Act.put, List.setIfInBounds_toArray, List.set_cons_zero, List.set_cons_succ, i64_w, i32_w]
            rfl
          refine last_ (i := 8) (N := none) #[true, true, true, true, true, true, true, true, true] rfl rfl (by kernel_rfl) (by decide) (fun K hK => ?_)
          have hs0 : w3.cell? ⟨w1.heap.size, 0, none⟩ = some vx := (blk_cell bx5 0).trans rfl
          have hfs0 := blk_frozen bx5 0
          refine skip_ (w1 := w3.setCell ⟨w1.heap.size, 0, none⟩ (.slice Ay ny cy)) (by rfl) rfl (by go_simp) ?_
          refine hK.out _ _ ?_
          clear hK K
          refine done_ (by kernel_rfl) ?_
          go_wp2_with (fail)
          have htk : b.f0.take (j + 1) = b.f0.take j ++ [t] := by rw [← Htj.out]; exact take_rd hlj
          have hfl : foldL (fun _ => none) (b.f0.take (j + 1)) = foldL (fun _ => none) (b.f0.take j) ++ [ft] := by rw [htk, foldL_snoc, ← hM1, Hft.out]
          have bx6 := blk_put bx5 0 (.slice Ay ny cy) rfl
          have rx6 := Kd.R_set rx4 bx5 (by decide) 0 (.slice Ay ny cy)
          have nxm := (ne_map km5 bx5).symm
          have km6 := km5.setCell (a := ⟨w1.heap.size, 0, none⟩) nxm (.slice Ay ny cy)
          have gr7 := gr_set gr6 (p := ⟨w1.heap.size, 0, none⟩) (Nat.le_refl _) (.slice Ay ny cy)
          go_roundw
          case rel => exact ⟨j + 1, n1 + 1, (foldP M1 t).2, _, hlj, by go_num, ⟨⟨bx6, hfl ▸ rx6, km6, by omega, by rw [htk, stM_snoc, ← hM1], gr7⟩⟩⟩
          case measure => simp [intOf]; omega
        · obtain ⟨bx, rx, km2, hn1, hM1, gr1⟩ := HI.out
          obtain rfl : j = b.f0.length := by omega
          rw [List.take_length] at rx hM1
          have HS2 := HS1.out.move gr1 (by omega) km2
          have gb1 : wo.heap.size < wi.heap.size := by have := gr1.size; have := blk_lt bb; omega
          obtain ⟨Ax, nx, cx, rfl⟩ := R_slicen rx
          obtain ⟨Av, nv, cv, rfl⟩ := R_slicen (Kd.S_R HS2.rB)
          have z40 : wi.cell? ⟨w.heap.size + 1 + 1 + 1, 0, none⟩ = some (.int .i64 regs) := (blk_cell HS2.b4 0).trans rfl
          have z41 : wi.cell? ⟨w.heap.size + 1 + 1 + 1, 1, none⟩ = some (.slice Av nv cv) := (blk_cell HS2.b4 1).trans rfl
          have zx0 : wi.cell? ⟨w1.heap.size, 0, none⟩ = some (.slice Ax nx cx) := (blk_cell bx 0).trans rfl
          have zx1 : wi.cell? ⟨w1.heap.size, 1, none⟩ = some (.int .i64 b.f1) := (blk_cell bx 1).trans rfl
          have zx2 : wi.cell? ⟨w1.heap.size, 2, none⟩ = some (.int .i64 b.f2) := (blk_cell bx 2).trans rfl
          have zx3 : wi.cell? ⟨w1.heap.size, 3, none⟩ = some (.int .i64 b.f3) := (blk_cell bx 3).trans rfl
          have zx4 : wi.cell? ⟨w1.heap.size, 4, none⟩ = some (.int .i64 b.f4) := (blk_cell bx 4).trans rfl
          have HS3 := Aside0.mk HS2
          have rx8 : Kd.R k48 48 wi w.heap.size (fun q => w1.heap.size ≤ q) (.slice Ax nx cx) (foldB b).f0 := Kd.R_mono (Kd.R_lower (Kd.R_bound rx) (by have := HS1.out.below.size; omega)) (fun q hq => hq.2.1)
          have hvlt : ∀ q, (Value.slice Av nv cv).ownBlock = some q → q < w1.heap.size := fun q e => (Kd.R_bound (Kd.S_R HS1.out.rB)).1 q e |>.2.2.1
          have hvl : (List.map foldB (List.take k l)).length ≤ 100000 := by rw [List.length_map, List.length_take]; omega
          have HB9 : Kd.S k45 45 wi w.heap.size (fun q => True ∧ ¬ w1.heap.size ≤ q) (.slice Av nv cv) (List.map foldB (List.take k l)) := Kd.S_mono (S_grMap (Kd.S_bound HS1.out.rB) HS1.out.km gr1) (fun q hq => ⟨trivial, by have := hq.2.2.1; omega⟩)
          clear HS2
          go_wp2_with (at_builtin; refine Kd.S_append k45 (w0 := wi) w.heap.size rfl (.tmp 52) (.tmp 54) 27 45 (.agg #[.slice none 0 0, .int .i64 0, .int .i64 0, .int .i64 0, .int .i64 0]) 56 rfl Try.underlying27 info45 rfl (by decide) (by omega) (.slice Av nv cv) _ (foldB b) [.slice Ax nx cx, .int .i64 b.f1, .int .i64 b.f2, .int .i64 b.f3, .int .i64 b.f4] (fun _ => True) (fun q => w1.heap.size ≤ q) rfl rfl (k45_mkM _ _ _ (foldB b) rx8) (fun q hq => ⟨trivial, fun e => by have := hvlt q e.symm; omega⟩) (fun _ _ => trivial) HB9 (Below.refl _ _) HS3.out.below.size (by omega) ?_)
          intro v1 w2 rB2 hB2 hg2 hat2
          clear HB9
          obtain ⟨Aw, nw, cw, rfl⟩ := R_slicen (Kd.S_R rB2)
          have HS4 := Aside0.mk (HS3.out.app (by omega) (by omega) (by omega) (by omega) (by omega) (by omega) rB2 hg2)
          have b1a := HS3.out.mid hg2 HS3.out.b1 (by decide)
          have b4a := HS3.out.mid hg2 HS3.out.b4 (by decide)
          have z42 : w2.cell? ⟨w.heap.size + 1 + 1 + 1, 1, none⟩ = some (.slice Av nv cv) := (blk_cell b4a 1).trans rfl
          have z43 := blk_frozen b4a 1
          have z10 : w2.cell? ⟨w.heap.size, 0, none⟩ = some (.int .i64 regs) := (blk_cell b1a 0).trans rfl
          clear rB2 hB2 hg2 hat2 HS3 rx8 hvlt hvl
          go_wp2_with ((with_reducible refine gate_dst (N := 59) rfl ?_); refine Kd.R_make Kd.bool w2.heap.size 4 rfl (N := 59) rfl 60 _ _ rfl regs rfl rfl Try.underlying60 (.bool false) 1 info4 rfl (by decide) (by omega) false (ok := fun _ => True) (okp := fun _ => True) rfl (fun _ hk => hk) trivial h0 (by omega) (Below.refl _ _) (by simp) ?_)
          obtain ⟨W0, hW0⟩ : ∃ W0, W0 = w2.setCell ⟨w.heap.size + 1 + 1 + 1, 1, none⟩ (.slice Aw nw cw) := ⟨_, rfl⟩
          have hsz0 : w2.heap.size = W0.heap.size := by rw [hW0]; simp
          rw [← hW0] at HS4 ⊢
          rw [hsz0]
          clear hW0 z42 z43 z10 z40 z41 zx0 zx1 zx2 zx3 zx4 b1a b4a
          intro vs ws rs hBs gs qs hqs hqs'
          obtain ⟨As, ns, cs, rfl⟩ := R_slicen rs
          obtain rfl : ns = regs.toNat := by obtain ⟨_, _, e⟩ := Kd.R_slice rs; injection e with _ e _; rw [e]; simp
          go_wp2_with (fail)
          go_loopw [62] (fun i wr => ∃ (q : Nat), q ≤ regs.toNat ∧ i = .int .i64 q ∧ Aside0 (Kd.R Kd.bool 4 wr W0.heap.size (fun _ => True) (.slice As regs.toNat cs) (List.replicate q true ++ List.replicate (regs.toNat - q) false)) ∧ Aside0 (Below W0.heap.size W0 wr)) (fun i _ => regs.toNat - (intOf i).toNat)
          case atStart => exact ⟨0, Nat.zero_le _, rfl, ⟨by simpa using rs⟩, ⟨hBs⟩⟩
          case round =>
            obtain ⟨q, hq, rfl, Hrq, HBq⟩ := hrel
            obtain ⟨wq, rfl⟩ : ∃ wq : World, wq = wr := ⟨_, rfl⟩
            by_cases hlq : q < regs.toNat
            · obtain ⟨gq, cq, eq, hq1, hq2, cells, hq3⟩ := Kd.R_form Hrq.out (by simp; omega)
              injection eq with eq1 eq2 eq3
              subst eq1
              clear eq2 eq3
              obtain ⟨zq, zf⟩ := Kd.R_celln false Hrq.out (q : Int) (by omega) (by omega)
              simp only [Int.toNat_natCast] at zq zf
              have hp := Kd.R_putg Hrq.out (q : Int) true
              rw [Int.toNat_natCast, set_rep hlq] at hp
              have HBn := Aside0.mk (HBq.out.setCell (p := ⟨gq, q, none⟩) hq1 (.bool true))
              have Hrn := Aside0.mk hp.1
              clear hp
              go_wp2_with (fail)
              go_roundw
              case rel => exact ⟨q + 1, hlq, by go_num, Hrn, HBn⟩
              case measure => simp [intOf]; omega
            · obtain rfl : q = regs.toNat := by omega
              have HS5 := Aside0.mk (HS4.out.old HBq.out)
              obtain ⟨Ae, ne, ce, rfl⟩ := R_slicen (Kd.S_R HS5.out.rS)
              have z50 : wq.cell? ⟨w.heap.size + 1 + 1 + 1 + 1, 0, none⟩ = some (.slice Ae ne ce) := (blk_cell HS5.out.b5 0).trans rfl
              have rs2 : Kd.R Kd.bool 4 wq w.heap.size (fun q => W0.heap.size ≤ q) (.slice As regs.toNat cs) (List.replicate regs.toNat true) := by
                have h := Kd.R_mono (Kd.R_lower (Kd.R_bound Hrq.out) HS4.out.below.size) (ok' := fun q => W0.heap.size ≤ q) (fun q hq => hq.2.1)
                simpa using h
              have hvlt : ∀ q, (Value.slice Ae ne ce).ownBlock = some q → q < W0.heap.size := fun q e => (Kd.R_bound (Kd.S_R HS4.out.rS)).1 q e |>.2.2.1
              have hvl : (List.map (fun _ => List.replicate regs.toNat true) (List.take k l)).length ≤ 100000 := by rw [List.length_map, List.length_take]; omega
              have HB9 : Kd.S (Kd.slice 4 Kd.bool) 60 wq w.heap.size (fun q => True ∧ ¬ W0.heap.size ≤ q) (.slice Ae ne ce) (List.map (fun _ => List.replicate regs.toNat true) (List.take k l)) := Kd.S_mono (Kd.S_below (Kd.S_bound HS4.out.rS) HBq.out) (fun q hq => ⟨trivial, by have := hq.2.2.1; omega⟩)
              go_wp2_with (at_builtin; refine Kd.S_append (Kd.slice 4 Kd.bool) (w0 := wq) w.heap.size rfl (.tmp 70) (.tmp 72) 30 60 (.slice none 0 0) 24 rfl Try.underlying30 info60 rfl (by decide) (by omega) (.slice Ae ne ce) _ (List.replicate regs.toNat true) [.slice As regs.toNat cs] (fun _ => True) (fun q => W0.heap.size ≤ q) rfl rfl ⟨_, rfl, rs2⟩ (fun q hq => ⟨trivial, fun e => by have := hvlt q e.symm; omega⟩) (fun _ _ => trivial) HB9 (Below.refl _ _) HS5.out.below.size (by omega) ?_)
              intro vz w5 rS5 hB5 hg5 hat5
              clear HB9
              obtain ⟨Az, nz, cz, rfl⟩ := R_slicen (Kd.S_R rS5)
              have HS6 := Aside0.mk (HS5.out.app5 (by omega) (by omega) (by omega) (by omega) (by omega) (by omega) rS5 hg5)
              have b5a := HS5.out.mid5 hg5 HS5.out.b5 (by decide)
              have z51 : w5.cell? ⟨w.heap.size + 1 + 1 + 1 + 1, 0, none⟩ = some (.slice Ae ne ce) := (blk_cell b5a 0).trans rfl
              have z52 := blk_frozen b5a 0
              go_wp2_with (fail)
              go_roundw
              case rel =>
                have h := HS6.out
                simp only [← List.map_take] at h
                rw [← Hbk.out, show List.map foldB (List.take k l) ++ [foldB (rd_T45 l (k : Int))] = List.map foldB (List.take (k + 1) l) by rw [take_rd5 hlt, List.map_append]; rfl, show List.map (fun _ => List.replicate regs.toNat true) (List.take k l) ++ [List.replicate regs.toNat true] = List.map (fun _ => List.replicate regs.toNat true) (List.take (k + 1) l) by rw [take_rd5 hlt, List.map_append]; rfl] at h
                exact ⟨k + 1, _, _, _, _, hlt, by go_num, ⟨h⟩⟩
              case measure => simp [intOf]; omega
    · obtain rfl : k = l.length := by omega
      rw [List.take_length] at HS
      obtain ⟨b1, b2, b3, b4, b5, rB, rS, km, hb⟩ := HS.out
      obtain ⟨Av, nv, cv, rfl⟩ := R_slicen (Kd.S_R rB)
      obtain ⟨Ae, ne, ce, rfl⟩ := R_slicen (Kd.S_R rS)
      have hfin : (w.heap.size + 1 ≠ w.heap.size + 1 + 1) ∧ w.heap.size + 1 ≠ w.heap.size + 1 + 1 + 1 := by omega
      have z20 : wo.cell? ⟨w.heap.size + 1, 0, none⟩ = some (.int .i64 0) := (blk_cell b2 0).trans rfl
      have z21 : wo.cell? ⟨w.heap.size + 1, 1, none⟩ = some (.slice none 0 0) := (blk_cell b2 1).trans rfl
      have z30 : wo.cell? ⟨w.heap.size + 1 + 1, 0, none⟩ = some (.slice none 0 0) := (blk_cell b3 0).trans rfl
      have z40 : wo.cell? ⟨w.heap.size + 1 + 1 + 1, 0, none⟩ = some (.int .i64 regs) := (blk_cell b4 0).trans rfl
      have z41 : wo.cell? ⟨w.heap.size + 1 + 1 + 1, 1, none⟩ = some (.slice Av nv cv) := (blk_cell b4 1).trans rfl
      have z50 : wo.cell? ⟨w.heap.size + 1 + 1 + 1 + 1, 0, none⟩ = some (.slice Ae ne ce) := (blk_cell b5 0).trans rfl
      have f20 := blk_frozen b2 0
      have f21 := blk_frozen b2 1
      have f30 := blk_frozen b3 0
      clear hfin
      go_wp2_with (fail)
      go_region
      go_wp2_with (fail)
      have n23 : w.heap.size + 1 + 1 ≠ w.heap.size + 1 := by omega
      have n32 : w.heap.size + 1 ≠ w.heap.size + 1 + 1 := by omega
      have c2 := blk_put (blk_put b2 0 (.int .i64 regs) rfl) 1 (.slice Av nv cv) rfl
      have c3 := blk_far (p := ⟨w.heap.size + 1, 1, none⟩) (blk_far (p := ⟨w.heap.size + 1, 0, none⟩) b3 n23 (.int .i64 regs)) n23 (.slice Av nv cv)
      refine bodyPost_ret (results_cc rfl _ _ (w.heap.size + 1) (w.heap.size + 1 + 1) 29 32 #[.int .i64 regs, .slice Av nv cv] #[.slice Ae ne ce] (0, 0) (0, 0) _ _ rfl (blk_drew (blk_far c2 n32 _)) Try.underlying29 rfl (by kernel_rfl) rfl (blk_drew (blk_put c3 0 _ rfl)) Try.underlying32 rfl (by kernel_rfl)) rfl ?_
      exact ⟨_, _, rfl, Kd.S_drew (Kd.S_set (Kd.S_set (Kd.S_set rB b2 (by decide) 0 _) (blk_put b2 0 (.int .i64 regs) rfl) (by decide) 1 _) c3 (by decide) 0 _), Kd.S_drew (Kd.S_set (Kd.S_set (Kd.S_set rS b2 (by decide) 0 _) (blk_put b2 0 (.int .i64 regs) rfl) (by decide) 1 _) c3 (by decide) 0 _), below_drew1 (((hb.setCell (by show _ ≤ _ + 1; omega) _).setCell (by show _ ≤ _ + 1; omega) _).setCell (by show _ ≤ _ + 1 + 1; omega) _)⟩
end Go.Proofs.Ytggchfdjpfodfaa.K
set_option linter.unusedVariables false
namespace Go.Proofs.Ytggchfdjpfodfaa.G
open Go.RowKit Go.Proofs.YtggchfdjpfodfaaW.PrintWords Go.Proofs.YtggchfdjpfodfaaW.PrintLast Go.Proofs.YtggchfdjpfodfaaW.PrintMore
open Sp K

def OfOk (a0 : Int) (l : List S45) : Prop := 0 ≤ a0 ∧ a0 ≤ 100000 ∧ l.length ≤ 100000 ∧ (∀ b ∈ l, b.f0.length ≤ 100000) ∧ ∀ b ∈ l, ∀ t ∈ b.f0, OkI t
instance decW32o (x : Int) : Decidable (W32 x) := by unfold W32; infer_instance
instance (t : S48) : Decidable (OkI t) := by unfold OkI; infer_instance
instance (a0 : Int) (l : List S45) : Decidable (OfOk a0 l) := by unfold OfOk; infer_instance
def fold_Of.f (a0 : Int) (l : List S45) : Option (Int × (List S45) × (List (List Bool))) :=
  if OfOk a0 l then some (a0, l.map foldB, l.map fun _ => List.replicate a0.toNat true) else none
theorem fold_Of.ok {a0 : Int} {l : List S45} (h : OfOk a0 l) : fold_Of.f a0 l = some (a0, l.map foldB, l.map fun _ => List.replicate a0.toNat true) := if_pos h
theorem fold_Of.calls (a0_0 : Int) (A0_1 : Option Addr) (c0_1 : Nat) (l0_1 : List (S45)) (r1 : Int) (r2 : List (S45)) (r3 : List (List Bool)) (w : World) (hr0_1 : Kd.C k45 w A0_1 l0_1.length l0_1) (hc0_1 : l0_1.length ≤ c0_1) (h : fold_Of.f a0_0 l0_1 = some (r1, r2, r3)) :
    Calls Try.prog 11 #[.agg #[.int .i64 a0_0, .slice A0_1 l0_1.length c0_1]] w fun e w' => ∃ v1_ v2_ : Value, e = .returned (.tuple #[.agg #[.int .i64 r1, v1_], .agg #[v2_]]) ∧ Kd.S k45 45 w' w.heap.size (fun _ => True) v1_ r2 ∧ Kd.S (Kd.slice 4 Kd.bool) 60 w' w.heap.size (fun _ => True) v2_ r3 ∧ Below w.heap.size w w' := by
  by_cases hk : OfOk a0_0 l0_1
  · rw [fold_Of.ok hk] at h
    injection h with h
    injection h with h1 h
    injection h with h2 h3
    subst h1 h2 h3
    obtain ⟨k1, k2, k3, k4, k5⟩ := hk
    exact of_calls _ _ _ _ w hr0_1 hc0_1 k1 k2 k3 k4 k5
  · rw [show fold_Of.f a0_0 l0_1 = none from if_neg hk] at h
    cases h
end Go.Proofs.Ytggchfdjpfodfaa.G
