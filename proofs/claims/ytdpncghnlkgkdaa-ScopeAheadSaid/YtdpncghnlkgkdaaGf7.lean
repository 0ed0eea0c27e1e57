-- laid by a program of the session (wip/gen/gprint.sh) over the kit's printer, with some functions given
import Derived.Test.YtdpncghnlkgkdaaG0
import Derived.Test.YtdpncghnlkgkdaaGf10
import Derived.Test.YtdpncghnlkgkdaaMP
import Derived.Test.YtdpncghnlkgkdaaMD
namespace Go.Proofs.Ytdpncghnlkgkdaa.G
open Go.RowKit Go.Proofs.YtdpncghnlkgkdaaW.PrintWords Go.Proofs.YtdpncghnlkgkdaaW.PrintLast Go.Proofs.YtdpncghnlkgkdaaW.PrintMore
attribute [local go_sem] max2_int min2_int max_two min_two max_three min_three max_four min_four   -- for this text's walks alone
set_option linter.unusedVariables false
set_option linter.unusedSimpArgs false

/-! ### seedcornlaw16_ScopeAhead: function 7 -/
mutual
def seedcornlaw16_ScopeAhead.j0 : Nat → Bool → List ByteArray → List (S68) → List (S40) → Option (Bool)
  | 0, _, _, _, _ => none
  | k + 1, x19, x725000, x725001, x725002 => if x19 = true then (some true) else ((scope_Calls.f x725000 x725001 x725002).bind fun t728 => (if (t728.length : Int) = (x725002.length : Int) then (seedcornlaw16_ScopeAhead.l0 k t728 ([] : List (List Bool)) 0) else (some false)))
def seedcornlaw16_ScopeAhead.l0 : Nat → List (List Int) → List (List Bool) → Int → Option (Bool)
  | 0, _, _, _ => none
  | k + 1, x3, x4, x5 => if x5 < (x3.length : Int) then (if 0 ≤ (x3.length : Int) then (if ((x3.length : Int) : Int).toNat ≤ 281474976710656 then (seedcornlaw16_ScopeAhead.l1 k x3 x4 x5 (List.replicate ((x3.length : Int) : Int).toNat false) 0) else (none)) else (none)) else (some true)
def seedcornlaw16_ScopeAhead.l1 : Nat → List (List Int) → List (List Bool) → Int → List Bool → Int → Option (Bool)
  | 0, _, _, _, _, _ => none
  | k + 1, x3, x4, x5, x6, x7 => if 0 ≤ x5 then (if x5 < (x3.length : Int) then (if x7 < ((rd_L14 x3 x5).length : Int) then (if 0 ≤ x7 then (if (rd (rd_L14 x3 x5) x7) < 0 then (seedcornlaw16_ScopeAhead.j3 k x3 x4 x5 x6 x7 (rd (rd_L14 x3 x5) x7) true) else (if (rd (rd_L14 x3 x5) x7) ≥ x5 then (seedcornlaw16_ScopeAhead.j3 k x3 x4 x5 x6 x7 (rd (rd_L14 x3 x5) x7) true) else (if x7 > 0 then (if 0 ≤ (wrap64 (x7 - 1)) then (if (wrap64 (x7 - 1)) < ((rd_L14 x3 x5).length : Int) then (seedcornlaw16_ScopeAhead.j3 k x3 x4 x5 x6 x7 (rd (rd_L14 x3 x5) x7) (decide ((rd (rd_L14 x3 x5) (wrap64 (x7 - 1))) ≥ (rd (rd_L14 x3 x5) x7)))) else (none)) else (none)) else (seedcornlaw16_ScopeAhead.j3 k x3 x4 x5 x6 x7 (rd (rd_L14 x3 x5) x7) false)))) else (none)) else (if x5 < (x6.length : Int) then (if rdOf false x6 x5 = true then (some false) else (if x4.length < 5864062014805 then (seedcornlaw16_ScopeAhead.l0 k x3 (x4 ++ [x6]) (wrap64 (x5 + 1))) else (none))) else (none))) else (none)) else (none)
def seedcornlaw16_ScopeAhead.j3 : Nat → List (List Int) → List (List Bool) → Int → List Bool → Int → Int → Bool → Option (Bool)
  | 0, _, _, _, _, _, _, _ => none
  | k + 1, x3, x4, x5, x6, x7, x8, x75 => if x75 = true then (some false) else (if 0 ≤ x8 then (if x8 < (x6.length : Int) then (seedcornlaw16_ScopeAhead.l2 k x3 x4 x5 (x6.set (x8 : Int).toNat true) x7 x8 0) else (none)) else (none))
def seedcornlaw16_ScopeAhead.l2 : Nat → List (List Int) → List (List Bool) → Int → List Bool → Int → Int → Int → Option (Bool)
  | 0, _, _, _, _, _, _, _ => none
  | k + 1, x3, x4, x5, x6, x7, x8, x9 => if x9 < x8 then (if 0 ≤ x9 then (if x9 < (x6.length : Int) then (if rdOf false x6 x9 = true then (seedcornlaw16_ScopeAhead.l2 k x3 x4 x5 (x6.set (x9 : Int).toNat true) x7 x8 (wrap64 (x9 + 1))) else (if 0 ≤ x8 then (if x8 < (x4.length : Int) then (if x9 < ((rd_L17 x4 x8).length : Int) then (seedcornlaw16_ScopeAhead.l2 k x3 x4 x5 (x6.set (x9 : Int).toNat (rdOf false (rd_L17 x4 x8) x9)) x7 x8 (wrap64 (x9 + 1))) else (none)) else (none)) else (none))) else (none)) else (none)) else (seedcornlaw16_ScopeAhead.l1 k x3 x4 x5 x6 (wrap64 (x7 + 1)))
end
def seedcornlaw16_ScopeAhead.f (k : Nat) (l0_0 : List ByteArray) (l0_1 : List (S68)) (l0_2 : List (S40)) : Option (Bool) := (seedcornlaw16_alive.f).bind fun t725 => (if t725 = true then ((seedcornlaw16_few.f k l0_0 l0_1 l0_2).bind fun t726 => (if t726 = true then ((scope_Check.f l0_0 l0_1 l0_2).bind fun t727 => (seedcornlaw16_ScopeAhead.j0 k (t727 == 4) l0_0 l0_1 l0_2)) else (seedcornlaw16_ScopeAhead.j0 k true l0_0 l0_1 l0_2))) else (some false))
theorem seedcornlaw16_ScopeAhead.mono_l : ∀ k, (∀ y0 y1 y2 y3, LeO (seedcornlaw16_ScopeAhead.j0 k y0 y1 y2 y3) (seedcornlaw16_ScopeAhead.j0 (k + 1) y0 y1 y2 y3)) ∧ (∀ y0 y1 y2, LeO (seedcornlaw16_ScopeAhead.l0 k y0 y1 y2) (seedcornlaw16_ScopeAhead.l0 (k + 1) y0 y1 y2)) ∧ (∀ y0 y1 y2 y3 y4, LeO (seedcornlaw16_ScopeAhead.l1 k y0 y1 y2 y3 y4) (seedcornlaw16_ScopeAhead.l1 (k + 1) y0 y1 y2 y3 y4)) ∧ (∀ y0 y1 y2 y3 y4 y5 y6, LeO (seedcornlaw16_ScopeAhead.j3 k y0 y1 y2 y3 y4 y5 y6) (seedcornlaw16_ScopeAhead.j3 (k + 1) y0 y1 y2 y3 y4 y5 y6)) ∧ (∀ y0 y1 y2 y3 y4 y5 y6, LeO (seedcornlaw16_ScopeAhead.l2 k y0 y1 y2 y3 y4 y5 y6) (seedcornlaw16_ScopeAhead.l2 (k + 1) y0 y1 y2 y3 y4 y5 y6))
  | 0 => ⟨fun _ _ _ _ r h => by simp [seedcornlaw16_ScopeAhead.j0] at h, fun _ _ _ r h => by simp [seedcornlaw16_ScopeAhead.l0] at h, fun _ _ _ _ _ r h => by simp [seedcornlaw16_ScopeAhead.l1] at h, fun _ _ _ _ _ _ _ r h => by simp [seedcornlaw16_ScopeAhead.j3] at h, fun _ _ _ _ _ _ _ r h => by simp [seedcornlaw16_ScopeAhead.l2] at h⟩
  | k + 1 => by
    obtain ⟨ih0, ih1, ih2, ih3, ih4⟩ := seedcornlaw16_ScopeAhead.mono_l k
    refine ⟨?_, ?_, ?_, ?_, ?_⟩
    · intro y0 y1 y2 y3
      unfold seedcornlaw16_ScopeAhead.j0
      repeat' first
      | (with_reducible exact ih0 _ _ _ _)
      | (with_reducible exact ih1 _ _ _)
      | (with_reducible exact ih2 _ _ _ _ _)
      | (with_reducible exact ih3 _ _ _ _ _ _ _)
      | (with_reducible exact ih4 _ _ _ _ _ _ _)
      | (with_reducible exact seedcornlaw16_few.mono _ _ _ _)
      | (with_reducible exact LeO.refl _)
      | (with_reducible exact LeO.none _)
      | (with_reducible refine LeO.ite ?_ ?_)
      | (with_reducible refine LeO.bind ?_ (fun _ => ?_))
      | exact ih0 _ _ _ _
      | exact ih1 _ _ _
      | exact ih2 _ _ _ _ _
      | exact ih3 _ _ _ _ _ _ _
      | exact ih4 _ _ _ _ _ _ _
      | exact seedcornlaw16_few.mono _ _ _ _
      | exact LeO.none _
      | refine LeO.ite ?_ ?_
      | refine LeO.bind ?_ (fun _ => ?_)
    · intro y0 y1 y2
      unfold seedcornlaw16_ScopeAhead.l0
      repeat' first
      | (with_reducible exact ih0 _ _ _ _)
      | (with_reducible exact ih1 _ _ _)
      | (with_reducible exact ih2 _ _ _ _ _)
      | (with_reducible exact ih3 _ _ _ _ _ _ _)
      | (with_reducible exact ih4 _ _ _ _ _ _ _)
      | (with_reducible exact seedcornlaw16_few.mono _ _ _ _)
      | (with_reducible exact LeO.refl _)
      | (with_reducible exact LeO.none _)
      | (with_reducible refine LeO.ite ?_ ?_)
      | (with_reducible refine LeO.bind ?_ (fun _ => ?_))
      | exact ih0 _ _ _ _
      | exact ih1 _ _ _
      | exact ih2 _ _ _ _ _
      | exact ih3 _ _ _ _ _ _ _
      | exact ih4 _ _ _ _ _ _ _
      | exact seedcornlaw16_few.mono _ _ _ _
      | exact LeO.none _
      | refine LeO.ite ?_ ?_
      | refine LeO.bind ?_ (fun _ => ?_)
    · intro y0 y1 y2 y3 y4
      unfold seedcornlaw16_ScopeAhead.l1
      repeat' first
      | (with_reducible exact ih0 _ _ _ _)
      | (with_reducible exact ih1 _ _ _)
      | (with_reducible exact ih2 _ _ _ _ _)
      | (with_reducible exact ih3 _ _ _ _ _ _ _)
      | (with_reducible exact ih4 _ _ _ _ _ _ _)
      | (with_reducible exact seedcornlaw16_few.mono _ _ _ _)
      | (with_reducible exact LeO.refl _)
      | (with_reducible exact LeO.none _)
      | (with_reducible refine LeO.ite ?_ ?_)
      | (with_reducible refine LeO.bind ?_ (fun _ => ?_))
      | exact ih0 _ _ _ _
      | exact ih1 _ _ _
      | exact ih2 _ _ _ _ _
      | exact ih3 _ _ _ _ _ _ _
      | exact ih4 _ _ _ _ _ _ _
      | exact seedcornlaw16_few.mono _ _ _ _
      | exact LeO.none _
      | refine LeO.ite ?_ ?_
      | refine LeO.bind ?_ (fun _ => ?_)
    · intro y0 y1 y2 y3 y4 y5 y6
      unfold seedcornlaw16_ScopeAhead.j3
      repeat' first
      | (with_reducible exact ih0 _ _ _ _)
      | (with_reducible exact ih1 _ _ _)
      | (with_reducible exact ih2 _ _ _ _ _)
      | (with_reducible exact ih3 _ _ _ _ _ _ _)
      | (with_reducible exact ih4 _ _ _ _ _ _ _)
      | (with_reducible exact seedcornlaw16_few.mono _ _ _ _)
      | (with_reducible exact LeO.refl _)
      | (with_reducible exact LeO.none _)
      | (with_reducible refine LeO.ite ?_ ?_)
      | (with_reducible refine LeO.bind ?_ (fun _ => ?_))
      | exact ih0 _ _ _ _
      | exact ih1 _ _ _
      | exact ih2 _ _ _ _ _
      | exact ih3 _ _ _ _ _ _ _
      | exact ih4 _ _ _ _ _ _ _
      | exact seedcornlaw16_few.mono _ _ _ _
      | exact LeO.none _
      | refine LeO.ite ?_ ?_
      | refine LeO.bind ?_ (fun _ => ?_)
    · intro y0 y1 y2 y3 y4 y5 y6
      unfold seedcornlaw16_ScopeAhead.l2
      repeat' first
      | (with_reducible exact ih0 _ _ _ _)
      | (with_reducible exact ih1 _ _ _)
      | (with_reducible exact ih2 _ _ _ _ _)
      | (with_reducible exact ih3 _ _ _ _ _ _ _)
      | (with_reducible exact ih4 _ _ _ _ _ _ _)
      | (with_reducible exact seedcornlaw16_few.mono _ _ _ _)
      | (with_reducible exact LeO.refl _)
      | (with_reducible exact LeO.none _)
      | (with_reducible refine LeO.ite ?_ ?_)
      | (with_reducible refine LeO.bind ?_ (fun _ => ?_))
      | exact ih0 _ _ _ _
      | exact ih1 _ _ _
      | exact ih2 _ _ _ _ _
      | exact ih3 _ _ _ _ _ _ _
      | exact ih4 _ _ _ _ _ _ _
      | exact seedcornlaw16_few.mono _ _ _ _
      | exact LeO.none _
      | refine LeO.ite ?_ ?_
      | refine LeO.bind ?_ (fun _ => ?_)
theorem seedcornlaw16_ScopeAhead.mono : ∀ a0 a1 a2 k, LeO (seedcornlaw16_ScopeAhead.f k a0 a1 a2) (seedcornlaw16_ScopeAhead.f (k + 1) a0 a1 a2) := by
  intro a0 a1 a2 k
  obtain ⟨ih0, ih1, ih2, ih3, ih4⟩ := seedcornlaw16_ScopeAhead.mono_l k
  unfold seedcornlaw16_ScopeAhead.f
  repeat' first
      | (with_reducible exact ih0 _ _ _ _)
      | (with_reducible exact ih1 _ _ _)
      | (with_reducible exact ih2 _ _ _ _ _)
      | (with_reducible exact ih3 _ _ _ _ _ _ _)
      | (with_reducible exact ih4 _ _ _ _ _ _ _)
      | (with_reducible exact seedcornlaw16_few.mono _ _ _ _)
      | (with_reducible exact LeO.refl _)
      | (with_reducible exact LeO.none _)
      | (with_reducible refine LeO.ite ?_ ?_)
      | (with_reducible refine LeO.bind ?_ (fun _ => ?_))
      | exact ih0 _ _ _ _
      | exact ih1 _ _ _
      | exact ih2 _ _ _ _ _
      | exact ih3 _ _ _ _ _ _ _
      | exact ih4 _ _ _ _ _ _ _
      | exact seedcornlaw16_few.mono _ _ _ _
      | exact LeO.none _
      | refine LeO.ite ?_ ?_
      | refine LeO.bind ?_ (fun _ => ?_)
set_option maxHeartbeats 8000000 in
set_option maxRecDepth 100000 in
theorem seedcornlaw16_ScopeAhead.calls (k : Nat) (A0_0 : Option Addr) (c0_0 : Nat) (l0_0 : List ByteArray) (A0_1 : Option Addr) (c0_1 : Nat) (l0_1 : List (S68)) (A0_2 : Option Addr) (c0_2 : Nat) (l0_2 : List (S40)) (r : Bool) (w : World) (hr0_0 : Kd.C Kd.string w A0_0 l0_0.length l0_0) (hc0_0 : l0_0.length ≤ c0_0) (hr0_1 : Kd.C k68 w A0_1 l0_1.length l0_1) (hc0_1 : l0_1.length ≤ c0_1) (hr0_2 : Kd.C k40 w A0_2 l0_2.length l0_2) (hc0_2 : l0_2.length ≤ c0_2) (h : seedcornlaw16_ScopeAhead.f k l0_0 l0_1 l0_2 = some r) :
    Calls Try.prog 7 #[.agg #[.slice A0_0 l0_0.length c0_0, .slice A0_1 l0_1.length c0_1, .slice A0_2 l0_2.length c0_2]] w fun e w' => e = .returned (.bool r) ∧ Below w.heap.size w w' := by
  have hu26 := Try.underlying26
  have HR0_0 := Aside0.mk hr0_0
  have HC0_0 := Aside0.mk hc0_0
  clear hr0_0 hc0_0
  have HR0_1 := Aside0.mk hr0_1
  have HC0_1 := Aside0.mk hc0_1
  clear hr0_1 hc0_1
  have HR0_2 := Aside0.mk hr0_2
  have HC0_2 := Aside0.mk hc0_2
  clear hr0_2 hc0_2
  have HB := Aside0.mk (Below.refl w.heap.size w)
  have H : ((seedcornlaw16_alive.f).bind fun t725 => (if t725 = true then ((seedcornlaw16_few.f k l0_0 l0_1 l0_2).bind fun t726 => (if t726 = true then ((scope_Check.f l0_0 l0_1 l0_2).bind fun t727 => (seedcornlaw16_ScopeAhead.j0 k (t727 == 4) l0_0 l0_1 l0_2)) else (seedcornlaw16_ScopeAhead.j0 k true l0_0 l0_1 l0_2))) else (some false))) = some r := h
  clear h
  replace H := Option.bind_eq_some_iff.mp H
  obtain ⟨t725, A20, H⟩ := H
  replace H : (if t725 = true then ((seedcornlaw16_few.f k l0_0 l0_1 l0_2).bind fun t726 => (if t726 = true then ((scope_Check.f l0_0 l0_1 l0_2).bind fun t727 => (seedcornlaw16_ScopeAhead.j0 k (t727 == 4) l0_0 l0_1 l0_2)) else (seedcornlaw16_ScopeAhead.j0 k true l0_0 l0_1 l0_2))) else (some false)) = some r := H
  have A2 := Aside0.mk A20
  clear A20
  by_cases c3 : t725 = true
  · subst c3
    have H1 : ((seedcornlaw16_few.f k l0_0 l0_1 l0_2).bind fun t726 => (if t726 = true then ((scope_Check.f l0_0 l0_1 l0_2).bind fun t727 => (seedcornlaw16_ScopeAhead.j0 k (t727 == 4) l0_0 l0_1 l0_2)) else (seedcornlaw16_ScopeAhead.j0 k true l0_0 l0_1 l0_2))) = some r := by rw [if_pos rfl] at H; exact H
    clear H
    have H := H1
    clear H1
    have HC4 := Aside0.mk H
    clear H
    go_enter Try.func7, Try.ntmps7
    go_upto_region 3 with (first | ((with_reducible refine gate_dst (N := 1) rfl ?_); refine box_event ?hg (N := 1) ?hd (cs := #[.slice A0_0 l0_0.length c0_0, .slice A0_1 l0_1.length c0_1, .slice A0_2 l0_2.length c0_2]) (t := 26) ?hr ?_; (case hd => rfl); (case hg => rfl); (case hr => first | (go_simp; done) | (go_simp; rfl)); intro gb724 hg w5 hbox hb; have n0_ := Aside0.mk (below_step (by repeat (first | (with_reducible first | exact HB.out | apply below_alloc | apply pw_below_drewN | apply below_drew1) | exact HB.out)) hb); have n1_ := Aside0.mk (hbox); have n2_ := Aside0.mk ((by rw [hg]; exact (below_size (by repeat (first | (with_reducible first | exact HB.out | apply below_alloc | apply pw_below_drewN | apply below_drew1) | exact HB.out))) : w.heap.size ≤ gb724)); have n3_ := Aside0.mk ((by rw [hg]; exact (below_size (by repeat (first | (with_reducible first | exact HB.out | apply below_alloc | apply pw_below_drewN | apply below_drew1) | exact HB.out))) : w.heap.size ≤ gb724)); clear HB; have HB := n0_; have BK724 := n1_; have GW724 := n2_; have GE724 := n3_; clear n0_ n1_ n2_ n3_; clear hb hbox hg) | ((with_reducible refine gate_callee (f := 9) rfl ?_); refine goesL_ (some 10) rfl rfl Try.func9 (by kernel_rfl) rfl #[] rfl (by (try simp only [List.map_toArray, List.map_cons, List.map_nil]); first | done | rfl | (simp only [List.length_drop, List.length_take]; rfl)) ?_; (with_reducible refine (seedcornlaw16_alive.calls  true _ A2.out).mono ?_); rintro e w6 ⟨rfl, hb⟩; refine ⟨_, rfl, ?_⟩; have n0_ := Aside0.mk (blk_below (g := gb724) (o := .cells #[.slice A0_0 l0_0.length c0_0, .slice A0_1 l0_1.length c0_1, .slice A0_2 l0_2.length c0_2] 26 (0, 0)) (by (with_reducible repeat (first | refine blk_drewN ?_ _ | refine blk_drew ?_ | refine blk_alloc ?_ _)); exact BK724.out) hb); have n1_ := Aside0.mk (below_step (by repeat (first | (with_reducible first | exact HB.out | apply below_alloc | apply pw_below_drewN | apply below_drew1 | refine below_set ?_ GE724.out) | exact HB.out)) hb); clear BK724; clear HB; have BK724 := n0_; have HB := n1_; clear n0_ n1_; (try clear hb); (try clear hb2); (try clear hk); (try clear hi)))
    (try simp only [Act.put, List.setIfInBounds_toArray, List.set_cons_zero, List.set_cons_succ])
    go_cut [19] (fun v19 wc => ∃ (kq : Nat) (x19_3 : Bool), v19 = .bool x19_3 ∧ Aside0 (seedcornlaw16_ScopeAhead.j0 kq x19_3 l0_0 l0_1 l0_2 = some r) ∧ Aside0 (kq ≤ k) ∧ Aside0 (wc.heap[gb724]? = some (.cells #[(.slice A0_0 l0_0.length c0_0), (.slice A0_1 l0_1.length c0_1), (.slice A0_2 l0_2.length c0_2)] 26 (0, 0))) ∧ Aside0 (Below w.heap.size w wc))
    case first =>
      have H := HC4.out
      clear HC4
      replace H := Option.bind_eq_some_iff.mp H
      obtain ⟨t726, A70, H⟩ := H
      replace H : (if t726 = true then ((scope_Check.f l0_0 l0_1 l0_2).bind fun t727 => (seedcornlaw16_ScopeAhead.j0 k (t727 == 4) l0_0 l0_1 l0_2)) else (seedcornlaw16_ScopeAhead.j0 k true l0_0 l0_1 l0_2)) = some r := H
      have A7 := Aside0.mk A70
      clear A70
      by_cases c8 : t726 = true
      · subst c8
        have H1 : ((scope_Check.f l0_0 l0_1 l0_2).bind fun t727 => (seedcornlaw16_ScopeAhead.j0 k (t727 == 4) l0_0 l0_1 l0_2)) = some r := by rw [if_pos rfl] at H; exact H
        clear H
        have H := H1
        clear H1
        replace H := Option.bind_eq_some_iff.mp H
        obtain ⟨t727, A90, H⟩ := H
        replace H : (seedcornlaw16_ScopeAhead.j0 k (t727 == 4) l0_0 l0_1 l0_2) = some r := H
        have A9 := Aside0.mk A90
        clear A90
        have H' := Aside0.mk H
        clear H
        have hcz10_0 : w6.cell? ⟨gb724, 0, none⟩ = some (.slice A0_0 l0_0.length c0_0) := (blk_cell BK724.out 0).trans rfl
        have hcz10_1 : w6.cell? ⟨gb724, 1, none⟩ = some (.slice A0_1 l0_1.length c0_1) := (blk_cell BK724.out 1).trans rfl
        have hcz10_2 : w6.cell? ⟨gb724, 2, none⟩ = some (.slice A0_2 l0_2.length c0_2) := (blk_cell BK724.out 2).trans rfl
        have hfz10_0 := blk_frozen BK724.out 0
        have hfz10_1 := blk_frozen BK724.out 1
        have hfz10_2 := blk_frozen BK724.out 2
        go_wp2_with (first | ((with_reducible refine gate_callee (f := 10) rfl ?_); refine goesL_ (some 13) rfl rfl Try.func10 (by kernel_rfl) rfl #[.agg #[.slice A0_0 l0_0.length c0_0, .slice A0_1 l0_1.length c0_1, .slice A0_2 l0_2.length c0_2]] rfl (by (try simp only [List.map_toArray, List.map_cons, List.map_nil]); first | done | rfl | (simp only [List.length_drop, List.length_take]; rfl)) ?_; (with_reducible refine (seedcornlaw16_few.calls k _ _ l0_0 _ _ l0_1 _ _ l0_2 true _ ?side1 ?side2 ?side3 ?side4 ?side5 ?side6 A7.out).mono ?_); (case side1 => repeat (first | exact (Kd.C_below HR0_0.out HB.out) | (with_reducible refine Kd.C_alloc ?_ _) | (with_reducible refine Kd.C_drewN ?_ _) | (with_reducible refine Kd.C_drew ?_))); (case side2 => exact HC0_0.out); (case side3 => repeat (first | exact (Kd.C_below HR0_1.out HB.out) | (with_reducible refine Kd.C_alloc ?_ _) | (with_reducible refine Kd.C_drewN ?_ _) | (with_reducible refine Kd.C_drew ?_))); (case side4 => exact HC0_1.out); (case side5 => repeat (first | exact (Kd.C_below HR0_2.out HB.out) | (with_reducible refine Kd.C_alloc ?_ _) | (with_reducible refine Kd.C_drewN ?_ _) | (with_reducible refine Kd.C_drew ?_))); (case side6 => exact HC0_2.out); rintro e w11 ⟨rfl, hb⟩; refine ⟨_, rfl, ?_⟩; have n0_ := Aside0.mk (blk_below (g := gb724) (o := .cells #[.slice A0_0 l0_0.length c0_0, .slice A0_1 l0_1.length c0_1, .slice A0_2 l0_2.length c0_2] 26 (0, 0)) (by (with_reducible repeat (first | refine blk_drewN ?_ _ | refine blk_drew ?_ | refine blk_alloc ?_ _)); exact BK724.out) hb); have n1_ := Aside0.mk (below_step (by repeat (first | (with_reducible first | exact HB.out | apply below_alloc | apply pw_below_drewN | apply below_drew1 | refine below_set ?_ GE724.out) | exact HB.out)) hb); clear BK724; clear HB; have BK724 := n0_; have HB := n1_; clear n0_ n1_; (try clear hb); (try clear hb2); (try clear hk); (try clear hi); have hcz12_0 : w11.cell? ⟨gb724, 0, none⟩ = some (.slice A0_0 l0_0.length c0_0) := (blk_cell BK724.out 0).trans rfl; have hcz12_1 : w11.cell? ⟨gb724, 1, none⟩ = some (.slice A0_1 l0_1.length c0_1) := (blk_cell BK724.out 1).trans rfl; have hcz12_2 : w11.cell? ⟨gb724, 2, none⟩ = some (.slice A0_2 l0_2.length c0_2) := (blk_cell BK724.out 2).trans rfl; have hfz12_0 := blk_frozen BK724.out 0; have hfz12_1 := blk_frozen BK724.out 1; have hfz12_2 := blk_frozen BK724.out 2) | (go_at_call 14; (with_reducible refine (scope_Check.calls _ _ l0_0 _ _ l0_1 _ _ l0_2 t727 _ ?side1 ?side2 ?side3 ?side4 ?side5 ?side6 A9.out).mono ?_); (case side1 => repeat (first | exact (Kd.C_below HR0_0.out HB.out) | (with_reducible refine Kd.C_alloc ?_ _) | (with_reducible refine Kd.C_drewN ?_ _) | (with_reducible refine Kd.C_drew ?_))); (case side2 => exact HC0_0.out); (case side3 => repeat (first | exact (Kd.C_below HR0_1.out HB.out) | (with_reducible refine Kd.C_alloc ?_ _) | (with_reducible refine Kd.C_drewN ?_ _) | (with_reducible refine Kd.C_drew ?_))); (case side4 => exact HC0_1.out); (case side5 => repeat (first | exact (Kd.C_below HR0_2.out HB.out) | (with_reducible refine Kd.C_alloc ?_ _) | (with_reducible refine Kd.C_drewN ?_ _) | (with_reducible refine Kd.C_drew ?_))); (case side6 => exact HC0_2.out); rintro e w13 ⟨rfl, hb⟩; have n0_ := Aside0.mk (blk_below (g := gb724) (o := .cells #[.slice A0_0 l0_0.length c0_0, .slice A0_1 l0_1.length c0_1, .slice A0_2 l0_2.length c0_2] 26 (0, 0)) (by (with_reducible repeat (first | refine blk_drewN ?_ _ | refine blk_drew ?_ | refine blk_alloc ?_ _)); exact BK724.out) hb); have n1_ := Aside0.mk (below_step (by repeat (first | (with_reducible first | exact HB.out | apply below_alloc | apply pw_below_drewN | apply below_drew1 | refine below_set ?_ GE724.out) | exact HB.out)) hb); clear BK724; clear HB; have BK724 := n0_; have HB := n1_; clear n0_ n1_; (try clear hb); (try clear hb2); (try clear hk); (try clear hi)))
        go_meet
        case rel => exact ⟨_, ((t727 == 4)), (by first | rfl | (simp; done) | (simp [*]; done)), H', ⟨by first | omega | exact Nat.le_refl _⟩, ⟨by (with_reducible repeat (first | refine blk_drewN ?_ _ | refine blk_drew ?_ | refine blk_alloc ?_ _)); exact BK724.out⟩, ⟨by repeat (first | (with_reducible first | exact HB.out | apply below_alloc | apply pw_below_drewN | apply below_drew1 | refine below_set ?_ GE724.out) | exact HB.out)⟩⟩
      · replace c8 := Bool.eq_false_iff.mpr c8
        subst c8
        have H1 : (seedcornlaw16_ScopeAhead.j0 k true l0_0 l0_1 l0_2) = some r := by rw [if_neg (show ¬ (false = true) by decide)] at H; exact H
        clear H
        have H := H1
        clear H1
        have H' := Aside0.mk H
        clear H
        have hcz14_0 : w6.cell? ⟨gb724, 0, none⟩ = some (.slice A0_0 l0_0.length c0_0) := (blk_cell BK724.out 0).trans rfl
        have hcz14_1 : w6.cell? ⟨gb724, 1, none⟩ = some (.slice A0_1 l0_1.length c0_1) := (blk_cell BK724.out 1).trans rfl
        have hcz14_2 : w6.cell? ⟨gb724, 2, none⟩ = some (.slice A0_2 l0_2.length c0_2) := (blk_cell BK724.out 2).trans rfl
        have hfz14_0 := blk_frozen BK724.out 0
        have hfz14_1 := blk_frozen BK724.out 1
        have hfz14_2 := blk_frozen BK724.out 2
        go_wp2_with (first | ((with_reducible refine gate_callee (f := 10) rfl ?_); refine goesL_ (some 13) rfl rfl Try.func10 (by kernel_rfl) rfl #[.agg #[.slice A0_0 l0_0.length c0_0, .slice A0_1 l0_1.length c0_1, .slice A0_2 l0_2.length c0_2]] rfl (by (try simp only [List.map_toArray, List.map_cons, List.map_nil]); first | done | rfl | (simp only [List.length_drop, List.length_take]; rfl)) ?_; (with_reducible refine (seedcornlaw16_few.calls k _ _ l0_0 _ _ l0_1 _ _ l0_2 false _ ?side1 ?side2 ?side3 ?side4 ?side5 ?side6 A7.out).mono ?_); (case side1 => repeat (first | exact (Kd.C_below HR0_0.out HB.out) | (with_reducible refine Kd.C_alloc ?_ _) | (with_reducible refine Kd.C_drewN ?_ _) | (with_reducible refine Kd.C_drew ?_))); (case side2 => exact HC0_0.out); (case side3 => repeat (first | exact (Kd.C_below HR0_1.out HB.out) | (with_reducible refine Kd.C_alloc ?_ _) | (with_reducible refine Kd.C_drewN ?_ _) | (with_reducible refine Kd.C_drew ?_))); (case side4 => exact HC0_1.out); (case side5 => repeat (first | exact (Kd.C_below HR0_2.out HB.out) | (with_reducible refine Kd.C_alloc ?_ _) | (with_reducible refine Kd.C_drewN ?_ _) | (with_reducible refine Kd.C_drew ?_))); (case side6 => exact HC0_2.out); rintro e w15 ⟨rfl, hb⟩; refine ⟨_, rfl, ?_⟩; have n0_ := Aside0.mk (blk_below (g := gb724) (o := .cells #[.slice A0_0 l0_0.length c0_0, .slice A0_1 l0_1.length c0_1, .slice A0_2 l0_2.length c0_2] 26 (0, 0)) (by (with_reducible repeat (first | refine blk_drewN ?_ _ | refine blk_drew ?_ | refine blk_alloc ?_ _)); exact BK724.out) hb); have n1_ := Aside0.mk (below_step (by repeat (first | (with_reducible first | exact HB.out | apply below_alloc | apply pw_below_drewN | apply below_drew1 | refine below_set ?_ GE724.out) | exact HB.out)) hb); clear BK724; clear HB; have BK724 := n0_; have HB := n1_; clear n0_ n1_; (try clear hb); (try clear hb2); (try clear hk); (try clear hi)))
        go_meet
        case rel => exact ⟨_, (true), (by first | rfl | (simp; done) | (simp [*]; done)), H', ⟨by first | omega | exact Nat.le_refl _⟩, ⟨by (with_reducible repeat (first | refine blk_drewN ?_ _ | refine blk_drew ?_ | refine blk_alloc ?_ _)); exact BK724.out⟩, ⟨by repeat (first | (with_reducible first | exact HB.out | apply below_alloc | apply pw_below_drewN | apply below_drew1 | refine below_set ?_ GE724.out) | exact HB.out)⟩⟩
    case rest =>
      clear HC4
      try clear c1
      try clear p2
      try clear c3
      try clear c7
      try clear c8
      try clear c9
      try clear c10
      try clear hcz10_0
      try clear hcz10_1
      try clear hcz10_2
      try clear hcz12_0
      try clear hcz12_1
      try clear hcz12_2
      try clear hcz14_0
      try clear hcz14_1
      try clear hcz14_2
      try clear hfz10_0
      try clear hfz10_1
      try clear hfz10_2
      try clear hfz12_0
      try clear hfz12_1
      try clear hfz12_2
      try clear hfz14_0
      try clear hfz14_1
      try clear hfz14_2
      obtain ⟨kq, x19_3, rfl, HA, HJ3, BK724, HB⟩ := hcut
      cases kq with
      | zero => exact absurd HA.out (by simp [seedcornlaw16_ScopeAhead.j0])
      | succ kj3 =>
        have H := HA.out
        clear HA
        simp only [seedcornlaw16_ScopeAhead.j0] at H
        by_cases c16 : x19_3 = true
        · subst c16
          have H1 : (some true) = some r := by rw [if_pos rfl] at H; exact H
          clear H
          have H := H1
          clear H1
          obtain rfl := Option.some.inj H
          go_wp2
          go_ret
          exact ⟨by first | rfl | (simp [errW_none, errW_some] <;> rfl) | (simp [*, errW_none, errW_some] <;> rfl), by repeat (first | (with_reducible first | exact HB.out | apply below_alloc | apply pw_below_drewN | apply below_drew1 | refine below_set ?_ GE724.out) | exact HB.out)⟩
        · replace c16 := Bool.eq_false_iff.mpr c16
          subst c16
          have H1 : ((scope_Calls.f l0_0 l0_1 l0_2).bind fun t728 => (if (t728.length : Int) = (l0_2.length : Int) then (seedcornlaw16_ScopeAhead.l0 kj3 t728 ([] : List (List Bool)) 0) else (some false))) = some r := by rw [if_neg (show ¬ (false = true) by decide)] at H; exact H
          clear H
          have H := H1
          clear H1
          replace H := Option.bind_eq_some_iff.mp H
          obtain ⟨t728, A170, H⟩ := H
          replace H : (if (t728.length : Int) = (l0_2.length : Int) then (seedcornlaw16_ScopeAhead.l0 kj3 t728 ([] : List (List Bool)) 0) else (some false)) = some r := H
          have A17 := Aside0.mk A170
          clear A170
          by_cases c18 : (t728.length : Int) = (l0_2.length : Int)
          · rw [if_pos c18] at H
            have c18b0 : ((t728.length : Int) == (l0_2.length : Int)) = true := beq_iff_eq.mpr c18
            have c18b1 : ((t728.length : Int) != (l0_2.length : Int)) = false := bne_eq_false_iff_eq.mpr c18
            have c18b2 : (t728.length == l0_2.length) = true := by first | simpa using c18 | (simp at c18 ⊢; omega)
            clear c18
            have H' := Aside0.mk H
            clear H
            have hcz19_0 : wc.cell? ⟨gb724, 0, none⟩ = some (.slice A0_0 l0_0.length c0_0) := (blk_cell BK724.out 0).trans rfl
            have hcz19_1 : wc.cell? ⟨gb724, 1, none⟩ = some (.slice A0_1 l0_1.length c0_1) := (blk_cell BK724.out 1).trans rfl
            have hcz19_2 : wc.cell? ⟨gb724, 2, none⟩ = some (.slice A0_2 l0_2.length c0_2) := (blk_cell BK724.out 2).trans rfl
            have hfz19_0 := blk_frozen BK724.out 0
            have hfz19_1 := blk_frozen BK724.out 1
            have hfz19_2 := blk_frozen BK724.out 2
            go_wp2_with (first | ((with_reducible refine gate_callee (f := 18) rfl ?_); refine goesL_ (some 21) rfl rfl Try.func18 (by kernel_rfl) rfl #[.agg #[.slice A0_0 l0_0.length c0_0, .slice A0_1 l0_1.length c0_1, .slice A0_2 l0_2.length c0_2]] rfl (by (try simp only [List.map_toArray, List.map_cons, List.map_nil]); first | done | rfl | (simp only [List.length_drop, List.length_take]; rfl)) ?_; (with_reducible refine (scope_Calls.calls _ _ l0_0 _ _ l0_1 _ _ l0_2 t728 _ ?side1 ?side2 ?side3 ?side4 ?side5 ?side6 A17.out).mono ?_); (case side1 => repeat (first | exact (Kd.C_below HR0_0.out HB.out) | (with_reducible refine Kd.C_alloc ?_ _) | (with_reducible refine Kd.C_drewN ?_ _) | (with_reducible refine Kd.C_drew ?_))); (case side2 => exact HC0_0.out); (case side3 => repeat (first | exact (Kd.C_below HR0_1.out HB.out) | (with_reducible refine Kd.C_alloc ?_ _) | (with_reducible refine Kd.C_drewN ?_ _) | (with_reducible refine Kd.C_drew ?_))); (case side4 => exact HC0_1.out); (case side5 => repeat (first | exact (Kd.C_below HR0_2.out HB.out) | (with_reducible refine Kd.C_alloc ?_ _) | (with_reducible refine Kd.C_drewN ?_ _) | (with_reducible refine Kd.C_drew ?_))); (case side6 => exact HC0_2.out); rintro e w20 ⟨v729, rfl, ho0, hb⟩; refine ⟨_, rfl, ?_⟩; have n0_ := Aside0.mk (Kd.S_lower ho0 (below_size (by repeat (first | (with_reducible first | exact HB.out | apply below_alloc | apply pw_below_drewN | apply below_drew1 | refine below_set ?_ GE724.out) | exact HB.out)))); have n1_ := Aside0.mk (blk_below (g := gb724) (o := .cells #[.slice A0_0 l0_0.length c0_0, .slice A0_1 l0_1.length c0_1, .slice A0_2 l0_2.length c0_2] 26 (0, 0)) (by (with_reducible repeat (first | refine blk_drewN ?_ _ | refine blk_drew ?_ | refine blk_alloc ?_ _)); exact BK724.out) hb); have n2_ := Aside0.mk (below_step (by repeat (first | (with_reducible first | exact HB.out | apply below_alloc | apply pw_below_drewN | apply below_drew1 | refine below_set ?_ GE724.out) | exact HB.out)) hb); clear BK724; clear HB; have HO730 := n0_; have BK724 := n1_; have HB := n2_; clear n0_ n1_ n2_; (try clear hb); (try clear hb2); (try clear hk); (try clear hi); (try clear ho0); obtain ⟨Ao21, co21, eo21⟩ := Kd.S_slice HO730.out; subst eo21; have hcz22_0 : w20.cell? ⟨gb724, 0, none⟩ = some (.slice A0_0 l0_0.length c0_0) := (blk_cell BK724.out 0).trans rfl; have hcz22_1 : w20.cell? ⟨gb724, 1, none⟩ = some (.slice A0_1 l0_1.length c0_1) := (blk_cell BK724.out 1).trans rfl; have hcz22_2 : w20.cell? ⟨gb724, 2, none⟩ = some (.slice A0_2 l0_2.length c0_2) := (blk_cell BK724.out 2).trans rfl; have hfz22_0 := blk_frozen BK724.out 0; have hfz22_1 := blk_frozen BK724.out 1; have hfz22_2 := blk_frozen BK724.out 2))
            go_loopg [4, 5] kj3 (fun kq v4 v5 w' => ∃ (x4_2 : List (List Bool)) (x5_2 : Int), v5 = .int .i64 x5_2 ∧ Aside0 (seedcornlaw16_ScopeAhead.l0 kq t728 x4_2 x5_2 = some r) ∧ Aside0 (kq ≤ kj3) ∧ Aside0 (Kd.S (Kd.slice 3 (Kd.int .i64)) 51 w' w.heap.size (fun _ => True) (.slice Ao21 t728.length co21) t728) ∧ Aside0 (Kd.S (Kd.slice 4 Kd.bool) 57 w' w.heap.size (fun _ => True) v4 x4_2) ∧ Aside0 (w'.heap[gb724]? = some (.cells #[(.slice A0_0 l0_0.length c0_0), (.slice A0_1 l0_1.length c0_1), (.slice A0_2 l0_2.length c0_2)] 26 (0, 0))) ∧ Aside0 (Below w.heap.size w w'))
            case atStart => exact ⟨(([] : List (List Bool))), (0), (by first | rfl | (simp; done) | (simp [*]; done)), H', ⟨Nat.le_refl _⟩, ⟨by (with_reducible repeat (first | apply Kd.S_alloc | apply Kd.S_drewN | apply Kd.S_drew)); exact HO730.out⟩, ⟨by first | exact Kd.S_nil _ _ _ _ _ | exact Kd.N_nil _ _ _ _ _ | exact Kd.V_nil _ _ _ _ _ | exact Kd.Q_nil _ _ _ _ _ | exact Kd.R_nil _ _ _ _ _⟩, ⟨by (with_reducible repeat (first | refine blk_drewN ?_ _ | refine blk_drew ?_ | refine blk_alloc ?_ _)); exact BK724.out⟩, ⟨by repeat (first | (with_reducible first | exact HB.out | apply below_alloc | apply pw_below_drewN | apply below_drew1 | refine below_set ?_ GE724.out) | exact HB.out)⟩⟩
            case round =>
              clear H'
              try clear c1
              try clear p2
              try clear c3
              try clear c7
              try clear c8
              try clear c9
              try clear c10
              try clear c16
              try clear c18
              try clear c18b0
              try clear c18b1
              try clear c18b2
              try clear hcz10_0
              try clear hcz10_1
              try clear hcz10_2
              try clear hcz12_0
              try clear hcz12_1
              try clear hcz12_2
              try clear hcz14_0
              try clear hcz14_1
              try clear hcz14_2
              try clear hcz19_0
              try clear hcz19_1
              try clear hcz19_2
              try clear hcz22_0
              try clear hcz22_1
              try clear hcz22_2
              try clear hfz10_0
              try clear hfz10_1
              try clear hfz10_2
              try clear hfz12_0
              try clear hfz12_1
              try clear hfz12_2
              try clear hfz14_0
              try clear hfz14_1
              try clear hfz14_2
              try clear hfz19_0
              try clear hfz19_1
              try clear hfz19_2
              try clear hfz22_0
              try clear hfz22_1
              try clear hfz22_2
              try clear p2
              obtain ⟨x4_2, x5_2, rfl, HA, HK2, HO_3, HO_4, BK724, HB⟩ := hrel
              cases gk with
              | zero => exact absurd HA.out (by simp [seedcornlaw16_ScopeAhead.l0])
              | succ k2 =>
                have H := HA.out
                clear HA
                simp only [seedcornlaw16_ScopeAhead.l0] at H
                by_cases c23 : x5_2 < (t728.length : Int)
                · rw [if_pos c23] at H
                  have c23b0 : decide (x5_2 < (t728.length : Int)) = true := decide_eq_true c23
                  clear c23
                  by_cases c24 : 0 ≤ (t728.length : Int)
                  · rw [if_pos c24] at H
                    have c24b0 := eq_true c24
                    have c24b1 : decide (0 ≤ (t728.length : Int)) = true := decide_eq_true c24
                    clear c24
                    by_cases c25 : ((t728.length : Int) : Int).toNat ≤ 281474976710656
                    · rw [if_pos c25] at H
                      have c25b0 := eq_true c25
                      have c25b1 : decide (((t728.length : Int) : Int).toNat ≤ 281474976710656) = true := decide_eq_true c25
                      clear c25
                      obtain ⟨y731, hy731⟩ : ∃ y_ : List Bool, y_ = (List.replicate ((t728.length : Int) : Int).toNat false) := ⟨_, rfl⟩
                      replace H : (seedcornlaw16_ScopeAhead.l1 k2 t728 x4_2 x5_2 y731 0) = some r := by first | (rw [hy731]; with_reducible exact H) | (have H2_ := (Option.bind_some _ _).symm.trans H; rw [hy731]; with_reducible exact H2_) | (have H2_ := (Option.bind_some _ _).symm.trans H; with_reducible exact H2_) | with_reducible exact H | (rw [hy731]; exact H) | exact H
                      have Ny731 := Aside0.mk hy731
                      clear hy731
                      have H' := Aside0.mk H
                      clear H
                      go_wp2_with (first | ((with_reducible refine gate_dst (N := 36) rfl ?_); refine Kd.R_make Kd.bool _ 4 rfl (N := 36) rfl 57 _ _ rfl (t728.length : Int) rfl rfl Try.underlying57 (.bool false) 1 info4 rfl (by decide) (by omega) false (ok := fun _ => True) (okp := fun _ => True) rfl (fun _ hk => hk) trivial (of_decide_eq_true (by first | (with_reducible assumption) | assumption)) (Nat.le_trans (Nat.mul_le_mul_right _ (of_decide_eq_true (by first | (with_reducible assumption) | assumption) : (t728.length : Int).toNat ≤ 281474976710656)) (by omega)) (Below.refl _ _) (Nat.le_refl _) ?_; intro v732 w26 ho27 hb hg_ hnew_; clear hg_ hnew_; (first | rw [← Ny731.out] at ho27 | (simp only [Int.reduceToNat] at ho27; rw [← Ny731.out] at ho27)); have n0_ := Aside0.mk (Kd.S_below (by (with_reducible repeat (first | apply Kd.S_alloc | apply Kd.S_drewN | apply Kd.S_drew)); exact HO_3.out) hb); have n1_ := Aside0.mk (Kd.S_elder' (by (with_reducible repeat (first | apply Kd.S_alloc | apply Kd.S_drewN | apply Kd.S_drew)); exact HO_4.out) (Kd.R_base ho27) hb); have n2_ := Aside0.mk (Kd.R_lower ho27 (below_size (by repeat (first | (with_reducible first | exact HB.out | apply below_alloc | apply pw_below_drewN | apply below_drew1 | refine below_set ?_ GE724.out) | exact HB.out)))); have n3_ := Aside0.mk (blk_below (g := gb724) (o := .cells #[.slice A0_0 l0_0.length c0_0, .slice A0_1 l0_1.length c0_1, .slice A0_2 l0_2.length c0_2] 26 (0, 0)) (by (with_reducible repeat (first | refine blk_drewN ?_ _ | refine blk_drew ?_ | refine blk_alloc ?_ _)); exact BK724.out) hb); have n4_ := Aside0.mk (below_step (by repeat (first | (with_reducible first | exact HB.out | apply below_alloc | apply pw_below_drewN | apply below_drew1 | refine below_set ?_ GE724.out) | exact HB.out)) hb); clear HO_3; clear HO_4; clear BK724; clear HB; have HO_3 := n0_; have HO_4 := n1_; have HO733 := n2_; have BK724 := n3_; have HB := n4_; clear n0_ n1_ n2_ n3_ n4_; clear hb ho27))
                      go_loopg [7] k2 (fun kq v7 w' => ∃ (x6_3 : List Bool) (x7_3 : Int), v7 = .int .i64 x7_3 ∧ Aside0 (seedcornlaw16_ScopeAhead.l1 kq t728 x4_2 x5_2 x6_3 x7_3 = some r) ∧ Aside0 (kq ≤ k2) ∧ Aside0 (Kd.S (Kd.slice 3 (Kd.int .i64)) 51 w' w.heap.size (fun _ => True) (.slice Ao21 t728.length co21) t728) ∧ Aside0 (Kd.S (Kd.slice 4 Kd.bool) 57 w' w.heap.size (fun k_ => some k_ ≠ (v732 : Value).ownBlock) u4 x4_2) ∧ Aside0 (Kd.R Kd.bool 4 w' w.heap.size (fun _ => True) v732 x6_3) ∧ Aside0 (w'.heap[gb724]? = some (.cells #[(.slice A0_0 l0_0.length c0_0), (.slice A0_1 l0_1.length c0_1), (.slice A0_2 l0_2.length c0_2)] 26 (0, 0))) ∧ Aside0 (Below w.heap.size w w'))
                      case atStart => exact ⟨(y731), (0), (by first | rfl | (simp; done) | (simp [*]; done)), H', ⟨Nat.le_refl _⟩, ⟨by (with_reducible repeat (first | apply Kd.S_alloc | apply Kd.S_drewN | apply Kd.S_drew)); exact HO_3.out⟩, ⟨by (with_reducible repeat (first | apply Kd.S_alloc | apply Kd.S_drewN | apply Kd.S_drew)); exact Kd.S_mono HO_4.out (fun _ hk => hk.2)⟩, ⟨by (with_reducible repeat (first | apply Kd.R_alloc | apply Kd.R_drewN | apply Kd.R_drew)); exact HO733.out⟩, ⟨by (with_reducible repeat (first | refine blk_drewN ?_ _ | refine blk_drew ?_ | refine blk_alloc ?_ _)); exact BK724.out⟩, ⟨by repeat (first | (with_reducible first | exact HB.out | apply below_alloc | apply pw_below_drewN | apply below_drew1 | refine below_set ?_ GE724.out) | exact HB.out)⟩⟩
                      case round =>
                        clear H'
                        try clear c1
                        try clear c2
                        try clear p2
                        try clear c3
                        try clear c7
                        try clear c8
                        try clear c9
                        try clear c10
                        try clear c16
                        try clear c18
                        try clear c18b0
                        try clear c18b1
                        try clear c18b2
                        try clear c23
                        try clear c23b0
                        try clear c24
                        try clear c24b0
                        try clear c24b1
                        try clear c25
                        try clear c25b0
                        try clear c25b1
                        try clear hcz10_0
                        try clear hcz10_1
                        try clear hcz10_2
                        try clear hcz12_0
                        try clear hcz12_1
                        try clear hcz12_2
                        try clear hcz14_0
                        try clear hcz14_1
                        try clear hcz14_2
                        try clear hcz19_0
                        try clear hcz19_1
                        try clear hcz19_2
                        try clear hcz22_0
                        try clear hcz22_1
                        try clear hcz22_2
                        try clear hfz10_0
                        try clear hfz10_1
                        try clear hfz10_2
                        try clear hfz12_0
                        try clear hfz12_1
                        try clear hfz12_2
                        try clear hfz14_0
                        try clear hfz14_1
                        try clear hfz14_2
                        try clear hfz19_0
                        try clear hfz19_1
                        try clear hfz19_2
                        try clear hfz22_0
                        try clear hfz22_1
                        try clear hfz22_2
                        try clear p2
                        obtain ⟨x6_3, x7_3, rfl, HA, HK3, HO_3, HO_4, HO_6, BK724, HB⟩ := hrel
                        cases gk with
                        | zero => exact absurd HA.out (by simp [seedcornlaw16_ScopeAhead.l1])
                        | succ k3 =>
                          have H := HA.out
                          clear HA
                          simp only [seedcornlaw16_ScopeAhead.l1] at H
                          by_cases c28 : 0 ≤ x5_2
                          · rw [if_pos c28] at H
                            have c28b0 : decide (0 ≤ x5_2) = true := decide_eq_true c28
                            clear c28
                            by_cases c29 : x5_2 < (t728.length : Int)
                            · rw [if_pos c29] at H
                              have c29b0 : decide (x5_2 < (t728.length : Int)) = true := decide_eq_true c29
                              clear c29
                              by_cases c30 : x7_3 < ((rd_L14 t728 x5_2).length : Int)
                              · rw [if_pos c30] at H
                                have c30b0 : decide (x7_3 < ((rd_L14 t728 x5_2).length : Int)) = true := decide_eq_true c30
                                clear c30
                                by_cases c31 : 0 ≤ x7_3
                                · rw [if_pos c31] at H
                                  have c31b0 : decide (0 ≤ x7_3) = true := decide_eq_true c31
                                  clear c31
                                  have HC32 := Aside0.mk H
                                  clear H
                                  have p734 : 0 ≤ (x5_2 : Int) := of_decide_eq_true (by first | (with_reducible assumption) | assumption)
                                  have q734 : x5_2 < (t728.length : Int) := of_decide_eq_true (by first | (with_reducible assumption) | assumption)
                                  obtain ⟨ad734, A734_0, c734_0, e734, hx734_0, hl734_0, hi734_0⟩ := at_L14 (Kd.S_reads' HO_3.out).2.2 x5_2 p734 q734
                                  cases e734
                                  obtain ⟨ce734, hce734, hMe734, hcc734⟩ := Kd.S_get HO_3.out [] x5_2 p734 (by first | exact q734 | exact of_decide_eq_true (by first | (with_reducible assumption) | assumption) | (have e_ := (Kd.S_reads' HO_3.out).1; omega))
                                  obtain ⟨ve734_0, rfl, ge734_0⟩ := hMe734
                                  have hv734_0 := hcc734 0 _ rfl
                                  rw [Nat.add_zero, show ((Kd.slice 3 (Kd.int .i64))).sz = 1 from rfl, Nat.mul_one] at hv734_0
                                  replace hv734_0 := Option.some.inj (hv734_0.symm.trans hx734_0)
                                  rw [hv734_0] at ge734_0
                                  have HL734_0 := Aside0.mk (show Kd.R (Kd.int .i64) 3 _ _ _ _ (rd_L14 t728 x5_2) from ge734_0)
                                  clear hv734_0 ge734_0
                                  clear hcc734 hce734
                                  have HR734_0 := Aside0.mk hi734_0
                                  have HC734_0 := Aside0.mk hl734_0
                                  clear hi734_0 hl734_0
                                  replace p734 := eq_true p734
                                  replace q734 := eq_true q734
                                  have p739 : 0 ≤ (x5_2 : Int) := of_decide_eq_true (by first | (with_reducible assumption) | assumption)
                                  have q739 : x5_2 < (t728.length : Int) := of_decide_eq_true (by first | (with_reducible assumption) | assumption)
                                  obtain ⟨ad739, A739_0, c739_0, e739, hx739_0, hl739_0, hi739_0⟩ := at_L14 (Kd.S_reads' HO_3.out).2.2 x5_2 p739 q739
                                  obtain rfl : ad734 = ad739 := (by injection e739)
                                  obtain ⟨ce739, hce739, hMe739, hcc739⟩ := Kd.S_get HO_3.out [] x5_2 p739 (by first | exact q739 | exact of_decide_eq_true (by first | (with_reducible assumption) | assumption) | (have e_ := (Kd.S_reads' HO_3.out).1; omega))
                                  obtain ⟨ve739_0, rfl, ge739_0⟩ := hMe739
                                  have hv739_0 := hcc739 0 _ rfl
                                  rw [Nat.add_zero, show ((Kd.slice 3 (Kd.int .i64))).sz = 1 from rfl, Nat.mul_one] at hv739_0
                                  replace hv739_0 := Option.some.inj (hv739_0.symm.trans hx739_0)
                                  rw [hv739_0] at ge739_0
                                  have HL739_0 := Aside0.mk (show Kd.R (Kd.int .i64) 3 _ _ _ _ (rd_L14 t728 x5_2) from ge739_0)
                                  clear hv739_0 ge739_0
                                  clear hcc739 hce739
                                  have HR739_0 := Aside0.mk hi739_0
                                  have HC739_0 := Aside0.mk hl739_0
                                  clear hi739_0 hl739_0
                                  replace p739 := eq_true p739
                                  replace q739 := eq_true q739
                                  have ea_ := Option.some.inj (hx734_0.symm.trans hx739_0)
                                  injection ea_ with ea_ en_ ec_
                                  subst ea_
                                  subst ec_
                                  clear en_
                                  have p740 : 0 ≤ (x7_3 : Int) := of_decide_eq_true (by first | (with_reducible assumption) | assumption)
                                  have q740 : x7_3 < ((rd_L14 t728 x5_2).length : Int) := of_decide_eq_true (by first | (with_reducible assumption) | assumption)
                                  obtain ⟨ad740, e740, hx740_0⟩ := Kd.at_int (by repeat (first | (with_reducible exact HR739_0.out) | (with_reducible refine Kd.C_alloc ?_ _) | (with_reducible refine Kd.C_drewN ?_ _) | (with_reducible refine Kd.C_drew ?_) | exact HR739_0.out)) x7_3 p740 q740
                                  cases e740
                                  replace p740 := eq_true p740
                                  replace q740 := eq_true q740
                                  go_upto_region 17 with (fail)
                                  go_cut [75] (fun v75 wc => ∃ (kq : Nat) (x75_31 : Bool), v75 = .bool x75_31 ∧ Aside0 (seedcornlaw16_ScopeAhead.j3 kq t728 x4_2 x5_2 x6_3 x7_3 (rd (rd_L14 t728 x5_2) x7_3) x75_31 = some r) ∧ Aside0 (kq ≤ k3) ∧ Aside0 (Kd.S (Kd.slice 3 (Kd.int .i64)) 51 wc w.heap.size (fun _ => True) (.slice (some ad734) t728.length co21) t728) ∧ Aside0 (Kd.S (Kd.slice 4 Kd.bool) 57 wc w.heap.size (fun k_ => some k_ ≠ (v732 : Value).ownBlock) u4 x4_2) ∧ Aside0 (Kd.R Kd.bool 4 wc w.heap.size (fun _ => True) v732 x6_3) ∧ Aside0 (wc.heap[gb724]? = some (.cells #[(.slice A0_0 l0_0.length c0_0), (.slice A0_1 l0_1.length c0_1), (.slice A0_2 l0_2.length c0_2)] 26 (0, 0))) ∧ Aside0 (Kd.C (Kd.int .i64) wc (some ad740) (rd_L14 t728 x5_2).length (rd_L14 t728 x5_2)) ∧ Aside0 (Kd.C (Kd.int .i64) wc (some ad740) (rd_L14 t728 x5_2).length (rd_L14 t728 x5_2)) ∧ Aside0 (Below w.heap.size w wc))
                                  case first =>
                                    have H := HC32.out
                                    clear HC32
                                    by_cases c33 : (rd (rd_L14 t728 x5_2) x7_3) < 0
                                    · rw [if_pos c33] at H
                                      have c33b0 : decide ((rd (rd_L14 t728 x5_2) x7_3) < 0) = true := decide_eq_true c33
                                      clear c33
                                      (first | rw [c33b0] | (simp only [i64_w, i32_w]; rw [c33b0]) | skip)
                                      have H' := Aside0.mk H
                                      clear H
                                      go_wp2
                                      go_meet
                                      case rel => exact ⟨_, (true), (by first | rfl | (simp; done) | (simp [*]; done)), H', ⟨by have := HJ3.out; have := HK2.out; have := HK3.out; first | omega | exact Nat.le_refl _⟩, ⟨by (with_reducible repeat (first | apply Kd.S_alloc | apply Kd.S_drewN | apply Kd.S_drew)); exact HO_3.out⟩, ⟨by (with_reducible repeat (first | apply Kd.S_alloc | apply Kd.S_drewN | apply Kd.S_drew)); exact HO_4.out⟩, ⟨by (with_reducible repeat (first | apply Kd.R_alloc | apply Kd.R_drewN | apply Kd.R_drew)); exact HO_6.out⟩, ⟨by (with_reducible repeat (first | refine blk_drewN ?_ _ | refine blk_drew ?_ | refine blk_alloc ?_ _)); exact BK724.out⟩, ⟨by repeat (first | (with_reducible exact HR734_0.out) | (with_reducible refine Kd.C_alloc ?_ _) | (with_reducible refine Kd.C_drewN ?_ _) | (with_reducible refine Kd.C_drew ?_) | exact HR734_0.out)⟩, ⟨by repeat (first | (with_reducible exact HR739_0.out) | (with_reducible refine Kd.C_alloc ?_ _) | (with_reducible refine Kd.C_drewN ?_ _) | (with_reducible refine Kd.C_drew ?_) | exact HR739_0.out)⟩, ⟨by repeat (first | (with_reducible first | exact HB.out | apply below_alloc | apply pw_below_drewN | apply below_drew1 | refine below_set ?_ GE724.out) | exact HB.out)⟩⟩
                                    · rw [if_neg c33] at H
                                      have c33b0 : decide ((rd (rd_L14 t728 x5_2) x7_3) < 0) = false := decide_eq_false c33
                                      clear c33
                                      (first | rw [c33b0] | (simp only [i64_w, i32_w]; rw [c33b0]) | skip)
                                      by_cases c34 : (rd (rd_L14 t728 x5_2) x7_3) ≥ x5_2
                                      · rw [if_pos c34] at H
                                        have c34b0 : decide (x5_2 ≤ (rd (rd_L14 t728 x5_2) x7_3)) = true := decide_eq_true c34
                                        clear c34
                                        have H' := Aside0.mk H
                                        clear H
                                        go_wp2
                                        go_meet
                                        case rel => exact ⟨_, (true), (by first | rfl | (simp; done) | (simp [*]; done)), H', ⟨by have := HJ3.out; have := HK2.out; have := HK3.out; first | omega | exact Nat.le_refl _⟩, ⟨by (with_reducible repeat (first | apply Kd.S_alloc | apply Kd.S_drewN | apply Kd.S_drew)); exact HO_3.out⟩, ⟨by (with_reducible repeat (first | apply Kd.S_alloc | apply Kd.S_drewN | apply Kd.S_drew)); exact HO_4.out⟩, ⟨by (with_reducible repeat (first | apply Kd.R_alloc | apply Kd.R_drewN | apply Kd.R_drew)); exact HO_6.out⟩, ⟨by (with_reducible repeat (first | refine blk_drewN ?_ _ | refine blk_drew ?_ | refine blk_alloc ?_ _)); exact BK724.out⟩, ⟨by repeat (first | (with_reducible exact HR734_0.out) | (with_reducible refine Kd.C_alloc ?_ _) | (with_reducible refine Kd.C_drewN ?_ _) | (with_reducible refine Kd.C_drew ?_) | exact HR734_0.out)⟩, ⟨by repeat (first | (with_reducible exact HR739_0.out) | (with_reducible refine Kd.C_alloc ?_ _) | (with_reducible refine Kd.C_drewN ?_ _) | (with_reducible refine Kd.C_drew ?_) | exact HR739_0.out)⟩, ⟨by repeat (first | (with_reducible first | exact HB.out | apply below_alloc | apply pw_below_drewN | apply below_drew1 | refine below_set ?_ GE724.out) | exact HB.out)⟩⟩
                                      · rw [if_neg c34] at H
                                        have c34b0 : decide (x5_2 ≤ (rd (rd_L14 t728 x5_2) x7_3)) = false := decide_eq_false c34
                                        clear c34
                                        by_cases c35 : x7_3 > 0
                                        · rw [if_pos c35] at H
                                          have c35b0 : decide (0 < x7_3) = true := decide_eq_true c35
                                          clear c35
                                          obtain ⟨ji36, hji36⟩ : ∃ j_ : Int, (wrap64 (x7_3 - 1)) = j_ := ⟨_, rfl⟩
                                          replace H : (if 0 ≤ (ji36) then (if (ji36) < ((rd_L14 t728 x5_2).length : Int) then (seedcornlaw16_ScopeAhead.j3 k3 t728 x4_2 x5_2 x6_3 x7_3 (rd (rd_L14 t728 x5_2) x7_3) (decide ((rd (rd_L14 t728 x5_2) (ji36)) ≥ (rd (rd_L14 t728 x5_2) x7_3)))) else (none)) else (none)) = some r := by first | (rw [hji36] at H; exact H) | (simp only [hji36] at H ⊢; exact H)
                                          have hji36w : (IntKind.i64.wrap (x7_3 - 1)) = ji36 := (i64_w _).trans hji36
                                          by_cases c37 : 0 ≤ (ji36)
                                          · rw [if_pos c37] at H
                                            have c37b0 : decide (0 ≤ (ji36)) = true := decide_eq_true c37
                                            clear c37
                                            by_cases c38 : (ji36) < ((rd_L14 t728 x5_2).length : Int)
                                            · rw [if_pos c38] at H
                                              have c38b0 : decide ((ji36) < ((rd_L14 t728 x5_2).length : Int)) = true := decide_eq_true c38
                                              clear c38
                                              have H' := Aside0.mk H
                                              clear H
                                              have p741 : 0 ≤ (x5_2 : Int) := of_decide_eq_true (by first | (with_reducible assumption) | assumption)
                                              have q741 : x5_2 < (t728.length : Int) := of_decide_eq_true (by first | (with_reducible assumption) | assumption)
                                              obtain ⟨ad741, A741_0, c741_0, e741, hx741_0, hl741_0, hi741_0⟩ := at_L14 (Kd.S_reads' HO_3.out).2.2 x5_2 p741 q741
                                              obtain rfl : ad734 = ad741 := (by injection e741)
                                              obtain ⟨ce741, hce741, hMe741, hcc741⟩ := Kd.S_get HO_3.out [] x5_2 p741 (by first | exact q741 | exact of_decide_eq_true (by first | (with_reducible assumption) | assumption) | (have e_ := (Kd.S_reads' HO_3.out).1; omega))
                                              obtain ⟨ve741_0, rfl, ge741_0⟩ := hMe741
                                              have hv741_0 := hcc741 0 _ rfl
                                              rw [Nat.add_zero, show ((Kd.slice 3 (Kd.int .i64))).sz = 1 from rfl, Nat.mul_one] at hv741_0
                                              replace hv741_0 := Option.some.inj (hv741_0.symm.trans hx741_0)
                                              rw [hv741_0] at ge741_0
                                              have HL741_0 := Aside0.mk (show Kd.R (Kd.int .i64) 3 _ _ _ _ (rd_L14 t728 x5_2) from ge741_0)
                                              clear hv741_0 ge741_0
                                              clear hcc741 hce741
                                              have HR741_0 := Aside0.mk hi741_0
                                              have HC741_0 := Aside0.mk hl741_0
                                              clear hi741_0 hl741_0
                                              replace p741 := eq_true p741
                                              replace q741 := eq_true q741
                                              have p742 : 0 ≤ ((ji36) : Int) := of_decide_eq_true (by first | (with_reducible assumption) | assumption)
                                              have q742 : (ji36) < ((rd_L14 t728 x5_2).length : Int) := of_decide_eq_true (by first | (with_reducible assumption) | assumption)
                                              obtain ⟨ad742, e742, hx742_0⟩ := Kd.at_int (by repeat (first | (with_reducible exact HR741_0.out) | (with_reducible refine Kd.C_alloc ?_ _) | (with_reducible refine Kd.C_drewN ?_ _) | (with_reducible refine Kd.C_drew ?_) | exact HR741_0.out)) (ji36) p742 q742
                                              cases e742
                                              obtain rfl : ad740 = ad742 := by have e_ := Option.some.inj (hx734_0.symm.trans hx741_0); injection e_ with e_; injection e_
                                              replace p742 := eq_true p742
                                              replace q742 := eq_true q742
                                              go_wp2
                                              go_meet
                                              case rel => exact ⟨_, (decide ((rd (rd_L14 t728 x5_2) (ji36)) ≥ (rd (rd_L14 t728 x5_2) x7_3))), (by first | rfl | (simp; done) | (simp only [← hji36] <;> (first | rfl | simp)) | (simp [*]; done)), H', ⟨by have := HJ3.out; have := HK2.out; have := HK3.out; first | omega | exact Nat.le_refl _⟩, ⟨by (with_reducible repeat (first | apply Kd.S_alloc | apply Kd.S_drewN | apply Kd.S_drew)); exact HO_3.out⟩, ⟨by (with_reducible repeat (first | apply Kd.S_alloc | apply Kd.S_drewN | apply Kd.S_drew)); exact HO_4.out⟩, ⟨by (with_reducible repeat (first | apply Kd.R_alloc | apply Kd.R_drewN | apply Kd.R_drew)); exact HO_6.out⟩, ⟨by (with_reducible repeat (first | refine blk_drewN ?_ _ | refine blk_drew ?_ | refine blk_alloc ?_ _)); exact BK724.out⟩, ⟨by repeat (first | (with_reducible exact HR734_0.out) | (with_reducible refine Kd.C_alloc ?_ _) | (with_reducible refine Kd.C_drewN ?_ _) | (with_reducible refine Kd.C_drew ?_) | exact HR734_0.out)⟩, ⟨by repeat (first | (with_reducible exact HR739_0.out) | (with_reducible refine Kd.C_alloc ?_ _) | (with_reducible refine Kd.C_drewN ?_ _) | (with_reducible refine Kd.C_drew ?_) | exact HR739_0.out)⟩, ⟨by repeat (first | (with_reducible first | exact HB.out | apply below_alloc | apply pw_below_drewN | apply below_drew1 | refine below_set ?_ GE724.out) | exact HB.out)⟩⟩
                                            · rw [if_neg c38] at H
                                              exact absurd H (by simp)
                                          · rw [if_neg c37] at H
                                            exact absurd H (by simp)
                                        · rw [if_neg c35] at H
                                          have c35b0 : decide (0 < x7_3) = false := decide_eq_false c35
                                          clear c35
                                          have H' := Aside0.mk H
                                          clear H
                                          go_wp2
                                          go_meet
                                          case rel => exact ⟨_, (false), (by first | rfl | (simp; done) | (simp [*]; done)), H', ⟨by have := HJ3.out; have := HK2.out; have := HK3.out; first | omega | exact Nat.le_refl _⟩, ⟨by (with_reducible repeat (first | apply Kd.S_alloc | apply Kd.S_drewN | apply Kd.S_drew)); exact HO_3.out⟩, ⟨by (with_reducible repeat (first | apply Kd.S_alloc | apply Kd.S_drewN | apply Kd.S_drew)); exact HO_4.out⟩, ⟨by (with_reducible repeat (first | apply Kd.R_alloc | apply Kd.R_drewN | apply Kd.R_drew)); exact HO_6.out⟩, ⟨by (with_reducible repeat (first | refine blk_drewN ?_ _ | refine blk_drew ?_ | refine blk_alloc ?_ _)); exact BK724.out⟩, ⟨by repeat (first | (with_reducible exact HR734_0.out) | (with_reducible refine Kd.C_alloc ?_ _) | (with_reducible refine Kd.C_drewN ?_ _) | (with_reducible refine Kd.C_drew ?_) | exact HR734_0.out)⟩, ⟨by repeat (first | (with_reducible exact HR739_0.out) | (with_reducible refine Kd.C_alloc ?_ _) | (with_reducible refine Kd.C_drewN ?_ _) | (with_reducible refine Kd.C_drew ?_) | exact HR739_0.out)⟩, ⟨by repeat (first | (with_reducible first | exact HB.out | apply below_alloc | apply pw_below_drewN | apply below_drew1 | refine below_set ?_ GE724.out) | exact HB.out)⟩⟩
                                  case rest =>
                                    clear HC32
                                    try clear c1
                                    try clear c2
                                    try clear p2
                                    try clear c3
                                    try clear p6
                                    try clear c7
                                    try clear p7
                                    try clear q7
                                    try clear hx7
                                    try clear c8
                                    try clear c9
                                    try clear c10
                                    try clear c16
                                    try clear c18
                                    try clear c18b0
                                    try clear c18b1
                                    try clear c18b2
                                    try clear c23
                                    try clear c23b0
                                    try clear c24
                                    try clear c24b0
                                    try clear c24b1
                                    try clear c25
                                    try clear c25b0
                                    try clear c25b1
                                    try clear c28
                                    try clear c28b0
                                    try clear c29
                                    try clear c29b0
                                    try clear c30
                                    try clear c30b0
                                    try clear c31
                                    try clear c31b0
                                    try clear c33
                                    try clear c33b0
                                    try clear c34
                                    try clear c34b0
                                    try clear c35
                                    try clear c35b0
                                    try clear c37
                                    try clear c37b0
                                    try clear c38
                                    try clear c38b0
                                    try clear hcz10_0
                                    try clear hcz10_1
                                    try clear hcz10_2
                                    try clear hcz12_0
                                    try clear hcz12_1
                                    try clear hcz12_2
                                    try clear hcz14_0
                                    try clear hcz14_1
                                    try clear hcz14_2
                                    try clear hcz19_0
                                    try clear hcz19_1
                                    try clear hcz19_2
                                    try clear hcz22_0
                                    try clear hcz22_1
                                    try clear hcz22_2
                                    try clear hfz10_0
                                    try clear hfz10_1
                                    try clear hfz10_2
                                    try clear hfz12_0
                                    try clear hfz12_1
                                    try clear hfz12_2
                                    try clear hfz14_0
                                    try clear hfz14_1
                                    try clear hfz14_2
                                    try clear hfz19_0
                                    try clear hfz19_1
                                    try clear hfz19_2
                                    try clear hfz22_0
                                    try clear hfz22_1
                                    try clear hfz22_2
                                    try clear hx734_0
                                    try clear hx739_0
                                    try clear hx740_0
                                    try clear hx741_0
                                    try clear hx742_0
                                    try clear p2
                                    try clear p734
                                    try clear p739
                                    try clear p740
                                    try clear p741
                                    try clear p742
                                    try clear q734
                                    try clear q739
                                    try clear q740
                                    try clear q741
                                    try clear q742
                                    obtain ⟨kq, x75_31, rfl, HA, HJ31, HO_3, HO_4, HO_6, BK724, HR734_0, HR739_0, HB⟩ := hcut
                                    cases kq with
                                    | zero => exact absurd HA.out (by simp [seedcornlaw16_ScopeAhead.j3])
                                    | succ kj31 =>
                                      have H := HA.out
                                      clear HA
                                      simp only [seedcornlaw16_ScopeAhead.j3] at H
                                      by_cases c39 : x75_31 = true
                                      · subst c39
                                        have H1 : (some false) = some r := by rw [if_pos rfl] at H; exact H
                                        clear H
                                        have H := H1
                                        clear H1
                                        obtain rfl := Option.some.inj H
                                        go_wp2
                                        go_ret
                                        exact ⟨by first | rfl | (simp [errW_none, errW_some] <;> rfl) | (simp [*, errW_none, errW_some] <;> rfl), by repeat (first | (with_reducible first | exact HB.out | apply below_alloc | apply pw_below_drewN | apply below_drew1 | refine below_set ?_ GE724.out) | exact HB.out)⟩
                                      · replace c39 := Bool.eq_false_iff.mpr c39
                                        subst c39
                                        have H1 : (if 0 ≤ (rd (rd_L14 t728 x5_2) x7_3) then (if (rd (rd_L14 t728 x5_2) x7_3) < (x6_3.length : Int) then (seedcornlaw16_ScopeAhead.l2 kj31 t728 x4_2 x5_2 (x6_3.set ((rd (rd_L14 t728 x5_2) x7_3) : Int).toNat true) x7_3 (rd (rd_L14 t728 x5_2) x7_3) 0) else (none)) else (none)) = some r := by rw [if_neg (show ¬ (false = true) by decide)] at H; exact H
                                        clear H
                                        have H := H1
                                        clear H1
                                        by_cases c40 : 0 ≤ (rd (rd_L14 t728 x5_2) x7_3)
                                        · rw [if_pos c40] at H
                                          have c40b0 : decide (0 ≤ (rd (rd_L14 t728 x5_2) x7_3)) = true := decide_eq_true c40
                                          clear c40
                                          by_cases c41 : (rd (rd_L14 t728 x5_2) x7_3) < (x6_3.length : Int)
                                          · rw [if_pos c41] at H
                                            have c41b0 : decide ((rd (rd_L14 t728 x5_2) x7_3) < (x6_3.length : Int)) = true := decide_eq_true c41
                                            clear c41
                                            obtain ⟨y743, hy743⟩ : ∃ y_ : List Bool, y_ = (x6_3.set ((rd (rd_L14 t728 x5_2) x7_3) : Int).toNat true) := ⟨_, rfl⟩
                                            replace H : (seedcornlaw16_ScopeAhead.l2 kj31 t728 x4_2 x5_2 y743 x7_3 (rd (rd_L14 t728 x5_2) x7_3) 0) = some r := by first | (rw [hy743]; with_reducible exact H) | (have H2_ := (Option.bind_some _ _).symm.trans H; rw [hy743]; with_reducible exact H2_) | (have H2_ := (Option.bind_some _ _).symm.trans H; with_reducible exact H2_) | with_reducible exact H | (rw [hy743]; exact H) | exact H
                                            have Ny743 := Aside0.mk hy743
                                            clear hy743
                                            have H' := Aside0.mk H
                                            clear H
                                            have p42 : 0 ≤ ((rd (rd_L14 t728 x5_2) x7_3) : Int) := of_decide_eq_true (by first | (with_reducible assumption) | assumption)
                                            have q42 : ((rd (rd_L14 t728 x5_2) x7_3) : Int) < ((x6_3.length : Int) : Int) := of_decide_eq_true (by first | (with_reducible assumption) | assumption)
                                            obtain ⟨go42, co42, eo42, gb42, gl42, cl42, HG42⟩ := Kd.R_form HO_6.out (by omega)
                                            (first | cases eo42 | (injection eo42 with ea_ en_ ec_; (first | subst ea_ | (injection ea_ with ea_; subst ea_)); subst ec_; clear en_))
                                            have GB42 := Aside0.mk gb42
                                            have GG42 := Aside0.mk HG42
                                            clear gb42 gl42 HG42
                                            obtain ⟨hx42_0, hf42_0⟩ := Kd.R_celln false HO_6.out ((rd (rd_L14 t728 x5_2) x7_3) : Int) p42 q42
                                            replace p42 := eq_true p42
                                            replace q42 := eq_true q42
                                            have HP43 := Kd.R_putg HO_6.out ((rd (rd_L14 t728 x5_2) x7_3) : Int) true
                                            go_wp2_with (first | ((with_reducible refine gate_store (t := 4) (p := 78) rfl ?_); refine store_event (t := 4) (p := 78) (v := ?vo_w44) (w1 := (wc.setCell ⟨go42, ((rd (rd_L14 t728 x5_2) x7_3) : Int).toNat, none⟩ (.bool true))) ?hg ?ho ?hn ?hr ?_; (case ho => rfl); (case hg => rfl); (case hn => rfl); (case hr => first | (go_simp; done) | (go_simp; rfl)); intro w44 hw; have hg : wc.grownBy w44 (some go42) := (by rw [hw]; exact HP43.2); have hp_ : Kd.R Kd.bool 4 w44 w.heap.size (fun _ => True) (.slice (some ⟨go42, 0, none⟩) x6_3.length co42) y743 := (by rw [hw, Ny743.out]; exact HP43.1); clear HP43; have n0_ := Aside0.mk (Kd.S_over' (v := (.slice (some ⟨go42, 0, none⟩) x6_3.length co42)) (by (with_reducible repeat (first | apply Kd.S_alloc | apply Kd.S_drewN | apply Kd.S_drew)); exact HO_3.out) (Kd.R_typed HO_6.out) (by decide) hg); have n1_ := Aside0.mk (Kd.S_after (v := (.slice (some ⟨go42, 0, none⟩) x6_3.length co42)) (v1 := (.slice (some ⟨go42, 0, none⟩) x6_3.length co42)) (ok := (fun _ => True)) (by (with_reducible repeat (first | apply Kd.S_alloc | apply Kd.S_drewN | apply Kd.S_drew)); exact Kd.S_mono HO_4.out (fun _ hk => ⟨trivial, hk⟩)) hg (.inl rfl)); have n2_ := Aside0.mk (hp_); have n3_ := Aside0.mk (blk_grown (g := gb724) (o := .cells #[.slice A0_0 l0_0.length c0_0, .slice A0_1 l0_1.length c0_1, .slice A0_2 l0_2.length c0_2] 26 (0, 0)) (by (with_reducible repeat (first | refine blk_drewN ?_ _ | refine blk_drew ?_ | refine blk_alloc ?_ _)); exact BK724.out) hg (Kd.R_ne HO_6.out BK724.out (by decide))); have n4_ := Aside0.mk ((by rw [hw]; exact below_set (HB.out) GB42.out : Below w.heap.size w w44)); clear HO_3; clear HO_4; clear HO_6; clear BK724; clear HB; have HO_3 := n0_; have HO_4 := n1_; have HO_6 := n2_; have BK724 := n3_; have HB := n4_; clear n0_ n1_ n2_ n3_ n4_; clear hg hw hp_))
                                            go_loopg [9] kj31 (fun kq v9 w' => ∃ (x6_5 : List Bool) (x9_5 : Int), v9 = .int .i64 x9_5 ∧ Aside0 (seedcornlaw16_ScopeAhead.l2 kq t728 x4_2 x5_2 x6_5 x7_3 (rd (rd_L14 t728 x5_2) x7_3) x9_5 = some r) ∧ Aside0 (kq ≤ kj31) ∧ Aside0 (Kd.S (Kd.slice 3 (Kd.int .i64)) 51 w' w.heap.size (fun _ => True) (.slice (some ad734) t728.length co21) t728) ∧ Aside0 (Kd.S (Kd.slice 4 Kd.bool) 57 w' w.heap.size (fun k_ => some k_ ≠ ((.slice (some ⟨go42, 0, none⟩) x6_3.length co42) : Value).ownBlock) u4 x4_2) ∧ Aside0 (Kd.R Kd.bool 4 w' w.heap.size (fun _ => True) (.slice (some ⟨go42, 0, none⟩) x6_3.length co42) x6_5) ∧ Aside0 (w'.heap[gb724]? = some (.cells #[(.slice A0_0 l0_0.length c0_0), (.slice A0_1 l0_1.length c0_1), (.slice A0_2 l0_2.length c0_2)] 26 (0, 0))) ∧ Aside0 (Below w.heap.size w w'))
                                            case atStart => exact ⟨(y743), (0), (by first | rfl | (simp; done) | (simp [*]; done)), H', ⟨Nat.le_refl _⟩, ⟨by (with_reducible repeat (first | apply Kd.S_alloc | apply Kd.S_drewN | apply Kd.S_drew)); exact HO_3.out⟩, ⟨by (with_reducible repeat (first | apply Kd.S_alloc | apply Kd.S_drewN | apply Kd.S_drew)); exact Kd.S_mono HO_4.out (fun _ hk => hk.2)⟩, ⟨by (with_reducible repeat (first | apply Kd.R_alloc | apply Kd.R_drewN | apply Kd.R_drew)); exact HO_6.out⟩, ⟨by (with_reducible repeat (first | refine blk_drewN ?_ _ | refine blk_drew ?_ | refine blk_alloc ?_ _)); exact BK724.out⟩, ⟨by repeat (first | (with_reducible first | exact HB.out | apply below_alloc | apply pw_below_drewN | apply below_drew1 | refine below_set ?_ GE724.out) | exact HB.out)⟩⟩
                                            case round =>
                                              clear H'
                                              try clear c1
                                              try clear c2
                                              try clear p2
                                              try clear c3
                                              try clear c4
                                              try clear p4
                                              try clear q4
                                              try clear hx4
                                              try clear hf4
                                              try clear p6
                                              try clear c7
                                              try clear p7
                                              try clear q7
                                              try clear hx7
                                              try clear c8
                                              try clear c9
                                              try clear c10
                                              try clear c16
                                              try clear c18
                                              try clear c18b0
                                              try clear c18b1
                                              try clear c18b2
                                              try clear c23
                                              try clear c23b0
                                              try clear c24
                                              try clear c24b0
                                              try clear c24b1
                                              try clear c25
                                              try clear c25b0
                                              try clear c25b1
                                              try clear c28
                                              try clear c28b0
                                              try clear c29
                                              try clear c29b0
                                              try clear c30
                                              try clear c30b0
                                              try clear c31
                                              try clear c31b0
                                              try clear c33
                                              try clear c33b0
                                              try clear c34
                                              try clear c34b0
                                              try clear c35
                                              try clear c35b0
                                              try clear c37
                                              try clear c37b0
                                              try clear c38
                                              try clear c38b0
                                              try clear c39
                                              try clear c40
                                              try clear c40b0
                                              try clear c41
                                              try clear c41b0
                                              try clear p42
                                              try clear q42
                                              try clear hx42
                                              try clear hf42
                                              try clear hcz10_0
                                              try clear hcz10_1
                                              try clear hcz10_2
                                              try clear hcz12_0
                                              try clear hcz12_1
                                              try clear hcz12_2
                                              try clear hcz14_0
                                              try clear hcz14_1
                                              try clear hcz14_2
                                              try clear hcz19_0
                                              try clear hcz19_1
                                              try clear hcz19_2
                                              try clear hcz22_0
                                              try clear hcz22_1
                                              try clear hcz22_2
                                              try clear hfz10_0
                                              try clear hfz10_1
                                              try clear hfz10_2
                                              try clear hfz12_0
                                              try clear hfz12_1
                                              try clear hfz12_2
                                              try clear hfz14_0
                                              try clear hfz14_1
                                              try clear hfz14_2
                                              try clear hfz19_0
                                              try clear hfz19_1
                                              try clear hfz19_2
                                              try clear hfz22_0
                                              try clear hfz22_1
                                              try clear hfz22_2
                                              try clear hx42_0
                                              try clear hx734_0
                                              try clear hx739_0
                                              try clear hx740_0
                                              try clear hx741_0
                                              try clear hx742_0
                                              try clear p2
                                              try clear p42
                                              try clear p6
                                              try clear p7
                                              try clear p734
                                              try clear p739
                                              try clear p740
                                              try clear p741
                                              try clear p742
                                              try clear q42
                                              try clear q7
                                              try clear q734
                                              try clear q739
                                              try clear q740
                                              try clear q741
                                              try clear q742
                                              obtain ⟨x6_5, x9_5, rfl, HA, HK5, HO_3, HO_4, HO_6, BK724, HB⟩ := hrel
                                              have hl6_5 := (Kd.R_reads' HO_6.out).1
                                              rw [hl6_5] at HO_6
                                              (try simp only [hl6_5])
                                              (try simp only [hl6_5] at BK724)
                                              (try simp only [hl6_5] at HO_3)
                                              (try simp only [hl6_5] at HO_4)
                                              cases gk with
                                              | zero => exact absurd HA.out (by simp [seedcornlaw16_ScopeAhead.l2])
                                              | succ k5 =>
                                                have H := HA.out
                                                clear HA
                                                simp only [seedcornlaw16_ScopeAhead.l2] at H
                                                by_cases c45 : x9_5 < (rd (rd_L14 t728 x5_2) x7_3)
                                                · rw [if_pos c45] at H
                                                  have c45b0 : decide (x9_5 < (rd (rd_L14 t728 x5_2) x7_3)) = true := decide_eq_true c45
                                                  clear c45
                                                  by_cases c46 : 0 ≤ x9_5
                                                  · rw [if_pos c46] at H
                                                    have c46b0 : decide (0 ≤ x9_5) = true := decide_eq_true c46
                                                    clear c46
                                                    by_cases c47 : x9_5 < (x6_5.length : Int)
                                                    · rw [if_pos c47] at H
                                                      have c47b0 : decide (x9_5 < (x6_5.length : Int)) = true := decide_eq_true c47
                                                      clear c47
                                                      obtain ⟨bq48, hbq48⟩ : ∃ b_ : Bool, b_ = (rdOf false x6_5 x9_5) := ⟨_, rfl⟩
                                                      replace H : (if bq48 = true then (seedcornlaw16_ScopeAhead.l2 k5 t728 x4_2 x5_2 (x6_5.set (x9_5 : Int).toNat true) x7_3 (rd (rd_L14 t728 x5_2) x7_3) (wrap64 (x9_5 + 1))) else (if 0 ≤ (rd (rd_L14 t728 x5_2) x7_3) then (if (rd (rd_L14 t728 x5_2) x7_3) < (x4_2.length : Int) then (if x9_5 < ((rd_L17 x4_2 (rd (rd_L14 t728 x5_2) x7_3)).length : Int) then (seedcornlaw16_ScopeAhead.l2 k5 t728 x4_2 x5_2 (x6_5.set (x9_5 : Int).toNat (rdOf false (rd_L17 x4_2 (rd (rd_L14 t728 x5_2) x7_3)) x9_5)) x7_3 (rd (rd_L14 t728 x5_2) x7_3) (wrap64 (x9_5 + 1))) else (none)) else (none)) else (none))) = some r := by rw [← hbq48] at H; exact H
                                                      have Nbq48 := Aside0.mk hbq48
                                                      clear hbq48
                                                      by_cases c49 : bq48 = true
                                                      · subst c49
                                                        have H1 : (seedcornlaw16_ScopeAhead.l2 k5 t728 x4_2 x5_2 (x6_5.set (x9_5 : Int).toNat true) x7_3 (rd (rd_L14 t728 x5_2) x7_3) (wrap64 (x9_5 + 1))) = some r := by rw [if_pos rfl] at H; exact H
                                                        clear H
                                                        have H := H1
                                                        clear H1
                                                        obtain ⟨y745, hy745⟩ : ∃ y_ : List Bool, y_ = (x6_5.set (x9_5 : Int).toNat true) := ⟨_, rfl⟩
                                                        replace H : (seedcornlaw16_ScopeAhead.l2 k5 t728 x4_2 x5_2 y745 x7_3 (rd (rd_L14 t728 x5_2) x7_3) (wrap64 (x9_5 + 1))) = some r := by first | (rw [hy745]; with_reducible exact H) | (have H2_ := (Option.bind_some _ _).symm.trans H; rw [hy745]; with_reducible exact H2_) | (have H2_ := (Option.bind_some _ _).symm.trans H; with_reducible exact H2_) | with_reducible exact H | (rw [hy745]; exact H) | exact H
                                                        have Ny745 := Aside0.mk hy745
                                                        clear hy745
                                                        have H' := Aside0.mk H
                                                        clear H
                                                        have p744 : 0 ≤ (x9_5 : Int) := of_decide_eq_true (by first | (with_reducible assumption) | assumption)
                                                        have q744 : x9_5 < (x6_5.length : Int) := of_decide_eq_true (by first | (with_reducible assumption) | assumption)
                                                        obtain ⟨ad744, e744, hx744_0⟩ := Kd.at_bool (Kd.R_reads' HO_6.out).2.2 x9_5 p744 q744
                                                        (try rw [← Nbq48.out] at hx744_0)
                                                        obtain rfl : (⟨go42, 0, none⟩ : Addr) = ad744 := (by injection e744)
                                                        (first | simp only [add_plain] at hx744_0 | simp only [add_at] at hx744_0 | simp only [Addr.add, Nat.zero_add] at hx744_0 | skip)
                                                        replace p744 := eq_true p744
                                                        replace q744 := eq_true q744
                                                        have p50 : 0 ≤ (x9_5 : Int) := of_decide_eq_true (by first | (with_reducible assumption) | assumption)
                                                        have q50 : (x9_5 : Int) < ((x6_5.length : Int) : Int) := of_decide_eq_true (by first | (with_reducible assumption) | assumption)
                                                        obtain ⟨hx50_0, hf50_0⟩ := Kd.R_celln false HO_6.out (x9_5 : Int) p50 q50
                                                        replace p50 := eq_true p50
                                                        replace q50 := eq_true q50
                                                        have HP51 := Kd.R_putg HO_6.out (x9_5 : Int) true
                                                        go_wp2_with (first | ((with_reducible refine gate_store (t := 4) (p := 99) rfl ?_); refine store_event (t := 4) (p := 99) (v := ?vo_w52) (w1 := (wr.setCell ⟨go42, (x9_5 : Int).toNat, none⟩ (.bool true))) ?hg ?ho ?hn ?hr ?_; (case ho => rfl); (case hg => rfl); (case hn => rfl); (case hr => first | (go_simp; done) | (go_simp; rfl)); intro w52 hw; have hg : wr.grownBy w52 (some go42) := (by rw [hw]; exact HP51.2); have hp_ : Kd.R Kd.bool 4 w52 w.heap.size (fun _ => True) (.slice (some ⟨go42, 0, none⟩) x6_5.length co42) y745 := (by rw [hw, Ny745.out]; exact HP51.1); clear HP51; have n0_ := Aside0.mk (Kd.S_over' (v := (.slice (some ⟨go42, 0, none⟩) x6_5.length co42)) (by (with_reducible repeat (first | apply Kd.S_alloc | apply Kd.S_drewN | apply Kd.S_drew)); exact HO_3.out) (Kd.R_typed HO_6.out) (by decide) hg); have n1_ := Aside0.mk (Kd.S_after (v := (.slice (some ⟨go42, 0, none⟩) x6_5.length co42)) (v1 := (.slice (some ⟨go42, 0, none⟩) x6_5.length co42)) (ok := (fun _ => True)) (by (with_reducible repeat (first | apply Kd.S_alloc | apply Kd.S_drewN | apply Kd.S_drew)); exact Kd.S_mono HO_4.out (fun _ hk => ⟨trivial, hk⟩)) hg (.inl rfl)); have n2_ := Aside0.mk (hp_); have n3_ := Aside0.mk (blk_grown (g := gb724) (o := .cells #[.slice A0_0 l0_0.length c0_0, .slice A0_1 l0_1.length c0_1, .slice A0_2 l0_2.length c0_2] 26 (0, 0)) (by (with_reducible repeat (first | refine blk_drewN ?_ _ | refine blk_drew ?_ | refine blk_alloc ?_ _)); exact BK724.out) hg (Kd.R_ne HO_6.out BK724.out (by decide))); have n4_ := Aside0.mk ((by rw [hw]; exact below_set (HB.out) GB42.out : Below w.heap.size w w52)); clear HO_3; clear HO_4; clear HO_6; clear BK724; clear HB; have HO_3 := n0_; have HO_4 := n1_; have HO_6 := n2_; have BK724 := n3_; have HB := n4_; clear n0_ n1_ n2_ n3_ n4_; clear hg hw hp_))
                                                        (try simp only [← hl6_5])
                                                        go_roundg k5
                                                        case measure => have := HJ3.out; have := HK2.out; have := HK3.out; have := HJ31.out; have := HK5.out; omega
                                                        case rel => exact ⟨(y745), (wrap64 (x9_5 + 1)), (by first | rfl | (simp; done) | (simp [*]; done)), H', ⟨by have := HJ3.out; have := HK2.out; have := HK3.out; have := HJ31.out; have := HK5.out; omega⟩, ⟨by (try simp only [hl6_5]); (with_reducible repeat (first | apply Kd.S_alloc | apply Kd.S_drewN | apply Kd.S_drew)); exact HO_3.out⟩, ⟨by (try simp only [hl6_5]); (with_reducible repeat (first | apply Kd.S_alloc | apply Kd.S_drewN | apply Kd.S_drew)); exact Kd.S_mono HO_4.out (fun _ hk => hk.2)⟩, ⟨by (try simp only [hl6_5]); (with_reducible repeat (first | apply Kd.R_alloc | apply Kd.R_drewN | apply Kd.R_drew)); exact HO_6.out⟩, ⟨by (try simp only [hl6_5]); (with_reducible repeat (first | refine blk_drewN ?_ _ | refine blk_drew ?_ | refine blk_alloc ?_ _)); exact BK724.out⟩, ⟨by repeat (first | (with_reducible first | exact HB.out | apply below_alloc | apply pw_below_drewN | apply below_drew1 | refine below_set ?_ GE724.out) | exact HB.out)⟩⟩
                                                      · replace c49 := Bool.eq_false_iff.mpr c49
                                                        subst c49
                                                        have H1 : (if 0 ≤ (rd (rd_L14 t728 x5_2) x7_3) then (if (rd (rd_L14 t728 x5_2) x7_3) < (x4_2.length : Int) then (if x9_5 < ((rd_L17 x4_2 (rd (rd_L14 t728 x5_2) x7_3)).length : Int) then (seedcornlaw16_ScopeAhead.l2 k5 t728 x4_2 x5_2 (x6_5.set (x9_5 : Int).toNat (rdOf false (rd_L17 x4_2 (rd (rd_L14 t728 x5_2) x7_3)) x9_5)) x7_3 (rd (rd_L14 t728 x5_2) x7_3) (wrap64 (x9_5 + 1))) else (none)) else (none)) else (none)) = some r := by rw [if_neg (show ¬ (false = true) by decide)] at H; exact H
                                                        clear H
                                                        have H := H1
                                                        clear H1
                                                        by_cases c53 : 0 ≤ (rd (rd_L14 t728 x5_2) x7_3)
                                                        · rw [if_pos c53] at H
                                                          have c53b0 : decide (0 ≤ (rd (rd_L14 t728 x5_2) x7_3)) = true := decide_eq_true c53
                                                          clear c53
                                                          by_cases c54 : (rd (rd_L14 t728 x5_2) x7_3) < (x4_2.length : Int)
                                                          · rw [if_pos c54] at H
                                                            have c54b0 : decide ((rd (rd_L14 t728 x5_2) x7_3) < (x4_2.length : Int)) = true := decide_eq_true c54
                                                            clear c54
                                                            by_cases c55 : x9_5 < ((rd_L17 x4_2 (rd (rd_L14 t728 x5_2) x7_3)).length : Int)
                                                            · rw [if_pos c55] at H
                                                              have c55b0 : decide (x9_5 < ((rd_L17 x4_2 (rd (rd_L14 t728 x5_2) x7_3)).length : Int)) = true := decide_eq_true c55
                                                              clear c55
                                                              obtain ⟨y748, hy748⟩ : ∃ y_ : List Bool, y_ = (x6_5.set (x9_5 : Int).toNat (rdOf false (rd_L17 x4_2 (rd (rd_L14 t728 x5_2) x7_3)) x9_5)) := ⟨_, rfl⟩
                                                              replace H : (seedcornlaw16_ScopeAhead.l2 k5 t728 x4_2 x5_2 y748 x7_3 (rd (rd_L14 t728 x5_2) x7_3) (wrap64 (x9_5 + 1))) = some r := by first | (rw [hy748]; with_reducible exact H) | (have H2_ := (Option.bind_some _ _).symm.trans H; rw [hy748]; with_reducible exact H2_) | (have H2_ := (Option.bind_some _ _).symm.trans H; with_reducible exact H2_) | with_reducible exact H | (rw [hy748]; exact H) | exact H
                                                              have Ny748 := Aside0.mk hy748
                                                              clear hy748
                                                              have H' := Aside0.mk H
                                                              clear H
                                                              have p744 : 0 ≤ (x9_5 : Int) := of_decide_eq_true (by first | (with_reducible assumption) | assumption)
                                                              have q744 : x9_5 < (x6_5.length : Int) := of_decide_eq_true (by first | (with_reducible assumption) | assumption)
                                                              obtain ⟨ad744, e744, hx744_0⟩ := Kd.at_bool (Kd.R_reads' HO_6.out).2.2 x9_5 p744 q744
                                                              (try rw [← Nbq48.out] at hx744_0)
                                                              obtain rfl : (⟨go42, 0, none⟩ : Addr) = ad744 := (by injection e744)
                                                              (first | simp only [add_plain] at hx744_0 | simp only [add_at] at hx744_0 | simp only [Addr.add, Nat.zero_add] at hx744_0 | skip)
                                                              replace p744 := eq_true p744
                                                              replace q744 := eq_true q744
                                                              obtain ⟨Ao57, co57, eo57⟩ := Kd.S_slice HO_4.out
                                                              subst eo57
                                                              have p746 : 0 ≤ ((rd (rd_L14 t728 x5_2) x7_3) : Int) := of_decide_eq_true (by first | (with_reducible assumption) | assumption)
                                                              have q746 : (rd (rd_L14 t728 x5_2) x7_3) < (x4_2.length : Int) := of_decide_eq_true (by first | (with_reducible assumption) | assumption)
                                                              obtain ⟨ad746, A746_0, c746_0, e746, hx746_0, hl746_0, hi746_0⟩ := at_L17 (Kd.S_reads' HO_4.out).2.2 (rd (rd_L14 t728 x5_2) x7_3) p746 q746
                                                              cases e746
                                                              obtain ⟨ce746, hce746, hMe746, hcc746⟩ := Kd.S_get HO_4.out [] (rd (rd_L14 t728 x5_2) x7_3) p746 (by first | exact q746 | exact of_decide_eq_true (by first | (with_reducible assumption) | assumption) | (have e_ := (Kd.S_reads' HO_4.out).1; omega))
                                                              obtain ⟨ve746_0, rfl, ge746_0⟩ := hMe746
                                                              have hv746_0 := hcc746 0 _ rfl
                                                              rw [Nat.add_zero, show ((Kd.slice 4 Kd.bool)).sz = 1 from rfl, Nat.mul_one] at hv746_0
                                                              replace hv746_0 := Option.some.inj (hv746_0.symm.trans hx746_0)
                                                              rw [hv746_0] at ge746_0
                                                              have HL746_0 := Aside0.mk (show Kd.R Kd.bool 4 _ _ _ _ (rd_L17 x4_2 (rd (rd_L14 t728 x5_2) x7_3)) from ge746_0)
                                                              clear hv746_0 ge746_0
                                                              clear hcc746 hce746
                                                              have HR746_0 := Aside0.mk hi746_0
                                                              have HC746_0 := Aside0.mk hl746_0
                                                              clear hi746_0 hl746_0
                                                              replace p746 := eq_true p746
                                                              replace q746 := eq_true q746
                                                              have p747 : 0 ≤ (x9_5 : Int) := of_decide_eq_true (by first | (with_reducible assumption) | assumption)
                                                              have q747 : x9_5 < ((rd_L17 x4_2 (rd (rd_L14 t728 x5_2) x7_3)).length : Int) := of_decide_eq_true (by first | (with_reducible assumption) | assumption)
                                                              obtain ⟨ad747, e747, hx747_0⟩ := Kd.at_bool (by repeat (first | (with_reducible exact HR746_0.out) | (with_reducible refine Kd.C_alloc ?_ _) | (with_reducible refine Kd.C_drewN ?_ _) | (with_reducible refine Kd.C_drew ?_) | exact HR746_0.out)) x9_5 p747 q747
                                                              (try rw [← Nbq48.out] at hx747_0)
                                                              cases e747
                                                              replace p747 := eq_true p747
                                                              replace q747 := eq_true q747
                                                              have p56 : 0 ≤ (x9_5 : Int) := of_decide_eq_true (by first | (with_reducible assumption) | assumption)
                                                              have q56 : (x9_5 : Int) < ((x6_5.length : Int) : Int) := of_decide_eq_true (by first | (with_reducible assumption) | assumption)
                                                              obtain ⟨hx56_0, hf56_0⟩ := Kd.R_celln false HO_6.out (x9_5 : Int) p56 q56
                                                              replace p56 := eq_true p56
                                                              replace q56 := eq_true q56
                                                              have HP58 := Kd.R_putg HO_6.out (x9_5 : Int) (rdOf false (rd_L17 x4_2 (rd (rd_L14 t728 x5_2) x7_3)) x9_5)
                                                              go_wp2_with (first | ((with_reducible refine gate_store (t := 4) (p := 99) rfl ?_); refine store_event (t := 4) (p := 99) (v := ?vo_w59) (w1 := (wr.setCell ⟨go42, (x9_5 : Int).toNat, none⟩ (.bool (rdOf false (rd_L17 x4_2 (rd (rd_L14 t728 x5_2) x7_3)) x9_5)))) ?hg ?ho ?hn ?hr ?_; (case ho => rfl); (case hg => rfl); (case hn => rfl); (case hr => first | (go_simp; done) | (go_simp; rfl)); intro w59 hw; have hg : wr.grownBy w59 (some go42) := (by rw [hw]; exact HP58.2); have hp_ : Kd.R Kd.bool 4 w59 w.heap.size (fun _ => True) (.slice (some ⟨go42, 0, none⟩) x6_5.length co42) y748 := (by rw [hw, Ny748.out]; exact HP58.1); clear HP58; have n0_ := Aside0.mk (Kd.S_over' (v := (.slice (some ⟨go42, 0, none⟩) x6_5.length co42)) (by (with_reducible repeat (first | apply Kd.S_alloc | apply Kd.S_drewN | apply Kd.S_drew)); exact HO_3.out) (Kd.R_typed HO_6.out) (by decide) hg); have n1_ := Aside0.mk (Kd.S_after (v := (.slice (some ⟨go42, 0, none⟩) x6_5.length co42)) (v1 := (.slice (some ⟨go42, 0, none⟩) x6_5.length co42)) (ok := (fun _ => True)) (by (with_reducible repeat (first | apply Kd.S_alloc | apply Kd.S_drewN | apply Kd.S_drew)); exact Kd.S_mono HO_4.out (fun _ hk => ⟨trivial, hk⟩)) hg (.inl rfl)); have n2_ := Aside0.mk (hp_); have n3_ := Aside0.mk (blk_grown (g := gb724) (o := .cells #[.slice A0_0 l0_0.length c0_0, .slice A0_1 l0_1.length c0_1, .slice A0_2 l0_2.length c0_2] 26 (0, 0)) (by (with_reducible repeat (first | refine blk_drewN ?_ _ | refine blk_drew ?_ | refine blk_alloc ?_ _)); exact BK724.out) hg (Kd.R_ne HO_6.out BK724.out (by decide))); have n4_ := Aside0.mk (Kd.R_after (v := (.slice (some ⟨go42, 0, none⟩) x6_5.length co42)) (v1 := (.slice (some ⟨go42, 0, none⟩) x6_5.length co42)) (ok := (fun k_ => some k_ ≠ (.slice (some ad746) x4_2.length co57 : Value).ownBlock)) (by (with_reducible repeat (first | apply Kd.R_alloc | apply Kd.R_drewN | apply Kd.R_drew)); exact Kd.R_mono HL746_0.out (fun _ hk => ⟨hk.2, hk.1⟩)) hg (.inl rfl)); have n5_ := Aside0.mk ((by rw [hw]; exact below_set (HB.out) GB42.out : Below w.heap.size w w59)); clear HO_3; clear HO_4; clear HO_6; clear BK724; clear HL746_0; clear HB; have HO_3 := n0_; have HO_4 := n1_; have HO_6 := n2_; have BK724 := n3_; have HL746_0 := n4_; have HB := n5_; clear n0_ n1_ n2_ n3_ n4_ n5_; clear hg hw hp_))
                                                              (try simp only [← hl6_5])
                                                              go_roundg k5
                                                              case measure => have := HJ3.out; have := HK2.out; have := HK3.out; have := HJ31.out; have := HK5.out; omega
                                                              case rel => exact ⟨(y748), (wrap64 (x9_5 + 1)), (by first | rfl | (simp; done) | (simp [*]; done)), H', ⟨by have := HJ3.out; have := HK2.out; have := HK3.out; have := HJ31.out; have := HK5.out; omega⟩, ⟨by (try simp only [hl6_5]); (with_reducible repeat (first | apply Kd.S_alloc | apply Kd.S_drewN | apply Kd.S_drew)); exact HO_3.out⟩, ⟨by (try simp only [hl6_5]); (with_reducible repeat (first | apply Kd.S_alloc | apply Kd.S_drewN | apply Kd.S_drew)); exact Kd.S_mono HO_4.out (fun _ hk => hk.2)⟩, ⟨by (try simp only [hl6_5]); (with_reducible repeat (first | apply Kd.R_alloc | apply Kd.R_drewN | apply Kd.R_drew)); exact HO_6.out⟩, ⟨by (try simp only [hl6_5]); (with_reducible repeat (first | refine blk_drewN ?_ _ | refine blk_drew ?_ | refine blk_alloc ?_ _)); exact BK724.out⟩, ⟨by repeat (first | (with_reducible first | exact HB.out | apply below_alloc | apply pw_below_drewN | apply below_drew1 | refine below_set ?_ GE724.out) | exact HB.out)⟩⟩
                                                            · rw [if_neg c55] at H
                                                              exact absurd H (by simp)
                                                          · rw [if_neg c54] at H
                                                            exact absurd H (by simp)
                                                        · rw [if_neg c53] at H
                                                          exact absurd H (by simp)
                                                    · rw [if_neg c47] at H
                                                      exact absurd H (by simp)
                                                  · rw [if_neg c46] at H
                                                    exact absurd H (by simp)
                                                · rw [if_neg c45] at H
                                                  have c45b0 : decide (x9_5 < (rd (rd_L14 t728 x5_2) x7_3)) = false := decide_eq_false c45
                                                  clear c45
                                                  have H' := Aside0.mk H
                                                  clear H
                                                  go_wp2
                                                  (try simp only [← hl6_5])
                                                  go_roundg k5
                                                  case measure => have := HJ3.out; have := HK2.out; have := HK3.out; have := HJ31.out; have := HK5.out; omega
                                                  case rel => exact ⟨(x6_5), (wrap64 (x7_3 + 1)), (by first | rfl | (simp; done) | (simp [*]; done)), H', ⟨by have := HJ3.out; have := HK2.out; have := HK3.out; have := HJ31.out; have := HK5.out; omega⟩, ⟨by (try simp only [hl6_5]); (with_reducible repeat (first | apply Kd.S_alloc | apply Kd.S_drewN | apply Kd.S_drew)); exact HO_3.out⟩, ⟨by (try simp only [hl6_5]); (with_reducible repeat (first | apply Kd.S_alloc | apply Kd.S_drewN | apply Kd.S_drew)); exact HO_4.out⟩, ⟨by (try simp only [hl6_5]); (with_reducible repeat (first | apply Kd.R_alloc | apply Kd.R_drewN | apply Kd.R_drew)); exact HO_6.out⟩, ⟨by (try simp only [hl6_5]); (with_reducible repeat (first | refine blk_drewN ?_ _ | refine blk_drew ?_ | refine blk_alloc ?_ _)); exact BK724.out⟩, ⟨by repeat (first | (with_reducible first | exact HB.out | apply below_alloc | apply pw_below_drewN | apply below_drew1 | refine below_set ?_ GE724.out) | exact HB.out)⟩⟩
                                          · rw [if_neg c41] at H
                                            exact absurd H (by simp)
                                        · rw [if_neg c40] at H
                                          exact absurd H (by simp)
                                · rw [if_neg c31] at H
                                  exact absurd H (by simp)
                              · rw [if_neg c30] at H
                                have c30b0 : decide (x7_3 < ((rd_L14 t728 x5_2).length : Int)) = false := decide_eq_false c30
                                clear c30
                                by_cases c60 : x5_2 < (x6_3.length : Int)
                                · rw [if_pos c60] at H
                                  have c60b0 : decide (x5_2 < (x6_3.length : Int)) = true := decide_eq_true c60
                                  clear c60
                                  obtain ⟨bq61, hbq61⟩ : ∃ b_ : Bool, b_ = (rdOf false x6_3 x5_2) := ⟨_, rfl⟩
                                  replace H : (if bq61 = true then (some false) else (if x4_2.length < 5864062014805 then (seedcornlaw16_ScopeAhead.l0 k3 t728 (x4_2 ++ [x6_3]) (wrap64 (x5_2 + 1))) else (none))) = some r := by rw [← hbq61] at H; exact H
                                  have Nbq61 := Aside0.mk hbq61
                                  clear hbq61
                                  by_cases c62 : bq61 = true
                                  · subst c62
                                    have H1 : (some false) = some r := by rw [if_pos rfl] at H; exact H
                                    clear H
                                    have H := H1
                                    clear H1
                                    obtain rfl := Option.some.inj H
                                    have p734 : 0 ≤ (x5_2 : Int) := of_decide_eq_true (by first | (with_reducible assumption) | assumption)
                                    have q734 : x5_2 < (t728.length : Int) := of_decide_eq_true (by first | (with_reducible assumption) | assumption)
                                    obtain ⟨ad734, A734_0, c734_0, e734, hx734_0, hl734_0, hi734_0⟩ := at_L14 (Kd.S_reads' HO_3.out).2.2 x5_2 p734 q734
                                    cases e734
                                    obtain ⟨ce734, hce734, hMe734, hcc734⟩ := Kd.S_get HO_3.out [] x5_2 p734 (by first | exact q734 | exact of_decide_eq_true (by first | (with_reducible assumption) | assumption) | (have e_ := (Kd.S_reads' HO_3.out).1; omega))
                                    obtain ⟨ve734_0, rfl, ge734_0⟩ := hMe734
                                    have hv734_0 := hcc734 0 _ rfl
                                    rw [Nat.add_zero, show ((Kd.slice 3 (Kd.int .i64))).sz = 1 from rfl, Nat.mul_one] at hv734_0
                                    replace hv734_0 := Option.some.inj (hv734_0.symm.trans hx734_0)
                                    rw [hv734_0] at ge734_0
                                    have HL734_0 := Aside0.mk (show Kd.R (Kd.int .i64) 3 _ _ _ _ (rd_L14 t728 x5_2) from ge734_0)
                                    clear hv734_0 ge734_0
                                    clear hcc734 hce734
                                    have HR734_0 := Aside0.mk hi734_0
                                    have HC734_0 := Aside0.mk hl734_0
                                    clear hi734_0 hl734_0
                                    replace p734 := eq_true p734
                                    replace q734 := eq_true q734
                                    obtain ⟨Ao63, co63, eo63⟩ := Kd.R_slice HO_6.out
                                    subst eo63
                                    have p735 : 0 ≤ (x5_2 : Int) := of_decide_eq_true (by first | (with_reducible assumption) | assumption)
                                    have q735 : x5_2 < (x6_3.length : Int) := of_decide_eq_true (by first | (with_reducible assumption) | assumption)
                                    obtain ⟨ad735, e735, hx735_0⟩ := Kd.at_bool (Kd.R_reads' HO_6.out).2.2 x5_2 p735 q735
                                    (try rw [← Nbq61.out] at hx735_0)
                                    cases e735
                                    replace p735 := eq_true p735
                                    replace q735 := eq_true q735
                                    go_wp2
                                    go_ret
                                    exact ⟨by first | rfl | (simp [errW_none, errW_some] <;> rfl) | (simp [*, errW_none, errW_some] <;> rfl), by repeat (first | (with_reducible first | exact HB.out | apply below_alloc | apply pw_below_drewN | apply below_drew1 | refine below_set ?_ GE724.out) | exact HB.out)⟩
                                  · replace c62 := Bool.eq_false_iff.mpr c62
                                    subst c62
                                    have H1 : (if x4_2.length < 5864062014805 then (seedcornlaw16_ScopeAhead.l0 k3 t728 (x4_2 ++ [x6_3]) (wrap64 (x5_2 + 1))) else (none)) = some r := by rw [if_neg (show ¬ (false = true) by decide)] at H; exact H
                                    clear H
                                    have H := H1
                                    clear H1
                                    by_cases c64 : x4_2.length < 5864062014805
                                    · rw [if_pos c64] at H
                                      have LMc64 := Aside0.mk c64
                                      clear c64
                                      obtain ⟨y736, hy736⟩ : ∃ y_ : List (List Bool), y_ = (x4_2 ++ [x6_3]) := ⟨_, rfl⟩
                                      replace H : (seedcornlaw16_ScopeAhead.l0 k3 t728 y736 (wrap64 (x5_2 + 1))) = some r := by first | (rw [hy736]; with_reducible exact H) | (have H2_ := (Option.bind_some _ _).symm.trans H; rw [hy736]; with_reducible exact H2_) | (have H2_ := (Option.bind_some _ _).symm.trans H; with_reducible exact H2_) | with_reducible exact H | (rw [hy736]; exact H) | exact H
                                      have Ny736 := Aside0.mk hy736
                                      clear hy736
                                      have H' := Aside0.mk H
                                      clear H
                                      have p734 : 0 ≤ (x5_2 : Int) := of_decide_eq_true (by first | (with_reducible assumption) | assumption)
                                      have q734 : x5_2 < (t728.length : Int) := of_decide_eq_true (by first | (with_reducible assumption) | assumption)
                                      obtain ⟨ad734, A734_0, c734_0, e734, hx734_0, hl734_0, hi734_0⟩ := at_L14 (Kd.S_reads' HO_3.out).2.2 x5_2 p734 q734
                                      cases e734
                                      obtain ⟨ce734, hce734, hMe734, hcc734⟩ := Kd.S_get HO_3.out [] x5_2 p734 (by first | exact q734 | exact of_decide_eq_true (by first | (with_reducible assumption) | assumption) | (have e_ := (Kd.S_reads' HO_3.out).1; omega))
                                      obtain ⟨ve734_0, rfl, ge734_0⟩ := hMe734
                                      have hv734_0 := hcc734 0 _ rfl
                                      rw [Nat.add_zero, show ((Kd.slice 3 (Kd.int .i64))).sz = 1 from rfl, Nat.mul_one] at hv734_0
                                      replace hv734_0 := Option.some.inj (hv734_0.symm.trans hx734_0)
                                      rw [hv734_0] at ge734_0
                                      have HL734_0 := Aside0.mk (show Kd.R (Kd.int .i64) 3 _ _ _ _ (rd_L14 t728 x5_2) from ge734_0)
                                      clear hv734_0 ge734_0
                                      clear hcc734 hce734
                                      have HR734_0 := Aside0.mk hi734_0
                                      have HC734_0 := Aside0.mk hl734_0
                                      clear hi734_0 hl734_0
                                      replace p734 := eq_true p734
                                      replace q734 := eq_true q734
                                      obtain ⟨Ao65, co65, eo65⟩ := Kd.R_slice HO_6.out
                                      subst eo65
                                      have p735 : 0 ≤ (x5_2 : Int) := of_decide_eq_true (by first | (with_reducible assumption) | assumption)
                                      have q735 : x5_2 < (x6_3.length : Int) := of_decide_eq_true (by first | (with_reducible assumption) | assumption)
                                      obtain ⟨ad735, e735, hx735_0⟩ := Kd.at_bool (Kd.R_reads' HO_6.out).2.2 x5_2 p735 q735
                                      (try rw [← Nbq61.out] at hx735_0)
                                      cases e735
                                      replace p735 := eq_true p735
                                      replace q735 := eq_true q735
                                      go_wp2_with (first | ((with_reducible refine gate_builtin (b := .append) (xs := #[.tmp 104, .tmp 106]) rfl ?_); at_builtin; refine Kd.S_append (Kd.slice 4 Kd.bool) (w0 := w) w.heap.size rfl (.tmp 104) (.tmp 106) 56 57 (.slice none 0 0) 24 rfl Try.underlying56 info57 rfl (by decide) (by omega) u4 x4_2 x6_3 [.slice (some ad735) x6_3.length co65] (fun _ => True) (fun k_ => some k_ = (.slice (some ad735) x6_3.length co65 : Value).ownBlock) rfl rfl ?aP (fun k_ hk_ => ((Kd.R_mono (ok' := fun k_ => ((fun _ => True)) k_ ∧ some k_ ≠ (u4 : Value).ownBlock) (Kd.R_apart' (HO_6.out) (Kd.S_typed HO_4.out) (by decide)) (fun k_ hk => ⟨trivial, hk.2⟩))).1 k_ hk_.symm) ?aF ?aO ?aB ?aS ?aL ?_; (case aP => exact Kd.M_row (Kd.R_mono (Kd.R_tight rfl (Kd.R_mono (ok' := fun k_ => ((fun _ => True)) k_ ∧ some k_ ≠ (u4 : Value).ownBlock) (Kd.R_apart' (HO_6.out) (Kd.S_typed HO_4.out) (by decide)) (fun k_ hk => ⟨trivial, hk.2⟩))) (fun _ h_ => h_))); (case aB => exact (by repeat (first | (with_reducible first | exact HB.out | apply below_alloc | apply pw_below_drewN | apply below_drew1 | refine below_set ?_ GE724.out) | exact HB.out))); (case aF => exact (fun _ _ => trivial)); (case aO => exact (by (with_reducible repeat (first | apply Kd.S_alloc | apply Kd.S_drewN | apply Kd.S_drew)); exact Kd.S_mono HO_4.out (fun k_ hk => ⟨trivial, fun e_ => hk e_⟩))); (case aS => exact (below_size (by repeat (first | (with_reducible first | exact HB.out | apply below_alloc | apply pw_below_drewN | apply below_drew1 | refine below_set ?_ GE724.out) | exact HB.out)))); (case aL => have := LMc64.out; omega); intro v737 w66 ho hb hg hat; rw [← Ny736.out] at ho; have n0_ := Aside0.mk (Kd.S_over' (by (with_reducible repeat (first | apply Kd.S_alloc | apply Kd.S_drewN | apply Kd.S_drew)); exact HO_3.out) (Kd.S_typed (by (with_reducible repeat (first | apply Kd.S_alloc | apply Kd.S_drewN | apply Kd.S_drew)); exact HO_4.out)) (by decide) hg); have n1_ := Aside0.mk (blk_grown (g := gb724) (o := .cells #[.slice A0_0 l0_0.length c0_0, .slice A0_1 l0_1.length c0_1, .slice A0_2 l0_2.length c0_2] 26 (0, 0)) (by (with_reducible repeat (first | refine blk_drewN ?_ _ | refine blk_drew ?_ | refine blk_alloc ?_ _)); exact BK724.out) hg (Kd.S_ne HO_4.out BK724.out (by decide))); have n2_ := Aside0.mk (Kd.R_over' (by (with_reducible repeat (first | apply Kd.R_alloc | apply Kd.R_drewN | apply Kd.R_drew)); exact HL734_0.out) (Kd.S_typed (by (with_reducible repeat (first | apply Kd.S_alloc | apply Kd.S_drewN | apply Kd.S_drew)); exact HO_4.out)) (by decide) hg); have n3_ := Aside0.mk (hb); have n4_ := Aside0.mk (ho); clear HO_3; clear BK724; clear HL734_0; clear HB; clear HO_4; clear HO_6; have HO_3 := n0_; have BK724 := n1_; have HL734_0 := n2_; have HB := n3_; have HO738 := n4_; clear n0_ n1_ n2_ n3_ n4_; clear ho hb hg hat))
                                      go_roundg k3
                                      case measure => have := HJ3.out; have := HK2.out; have := HK3.out; omega
                                      case rel => exact ⟨(y736), (wrap64 (x5_2 + 1)), (by first | rfl | (simp; done) | (simp [*]; done)), H', ⟨by have := HJ3.out; have := HK2.out; have := HK3.out; omega⟩, ⟨by (with_reducible repeat (first | apply Kd.S_alloc | apply Kd.S_drewN | apply Kd.S_drew)); exact HO_3.out⟩, ⟨by (with_reducible repeat (first | apply Kd.S_alloc | apply Kd.S_drewN | apply Kd.S_drew)); exact HO738.out⟩, ⟨by (with_reducible repeat (first | refine blk_drewN ?_ _ | refine blk_drew ?_ | refine blk_alloc ?_ _)); exact BK724.out⟩, ⟨by repeat (first | (with_reducible first | exact HB.out | apply below_alloc | apply pw_below_drewN | apply below_drew1 | refine below_set ?_ GE724.out) | exact HB.out)⟩⟩
                                    · rw [if_neg c64] at H
                                      exact absurd H (by simp)
                                · rw [if_neg c60] at H
                                  exact absurd H (by simp)
                            · rw [if_neg c29] at H
                              exact absurd H (by simp)
                          · rw [if_neg c28] at H
                            exact absurd H (by simp)
                    · rw [if_neg c25] at H
                      exact absurd H (by simp)
                  · rw [if_neg c24] at H
                    exact absurd H (by simp)
                · rw [if_neg c23] at H
                  have c23b0 : decide (x5_2 < (t728.length : Int)) = false := decide_eq_false c23
                  clear c23
                  obtain rfl := Option.some.inj H
                  go_wp2
                  go_ret
                  exact ⟨by first | rfl | (simp [errW_none, errW_some] <;> rfl) | (simp [*, errW_none, errW_some] <;> rfl), by repeat (first | (with_reducible first | exact HB.out | apply below_alloc | apply pw_below_drewN | apply below_drew1 | refine below_set ?_ GE724.out) | exact HB.out)⟩
          · rw [if_neg c18] at H
            have c18b0 : ((t728.length : Int) == (l0_2.length : Int)) = false := beq_eq_false_iff_ne.mpr c18
            have c18b1 : ((t728.length : Int) != (l0_2.length : Int)) = true := bne_iff_ne.mpr c18
            have c18b2 : (t728.length == l0_2.length) = false := by first | simpa using c18 | (simp at c18 ⊢; omega)
            obtain rfl := Option.some.inj H
            have hcz67_0 : wc.cell? ⟨gb724, 0, none⟩ = some (.slice A0_0 l0_0.length c0_0) := (blk_cell BK724.out 0).trans rfl
            have hcz67_1 : wc.cell? ⟨gb724, 1, none⟩ = some (.slice A0_1 l0_1.length c0_1) := (blk_cell BK724.out 1).trans rfl
            have hcz67_2 : wc.cell? ⟨gb724, 2, none⟩ = some (.slice A0_2 l0_2.length c0_2) := (blk_cell BK724.out 2).trans rfl
            have hfz67_0 := blk_frozen BK724.out 0
            have hfz67_1 := blk_frozen BK724.out 1
            have hfz67_2 := blk_frozen BK724.out 2
            go_wp2_with (first | ((with_reducible refine gate_callee (f := 18) rfl ?_); refine goesL_ (some 21) rfl rfl Try.func18 (by kernel_rfl) rfl #[.agg #[.slice A0_0 l0_0.length c0_0, .slice A0_1 l0_1.length c0_1, .slice A0_2 l0_2.length c0_2]] rfl (by (try simp only [List.map_toArray, List.map_cons, List.map_nil]); first | done | rfl | (simp only [List.length_drop, List.length_take]; rfl)) ?_; (with_reducible refine (scope_Calls.calls _ _ l0_0 _ _ l0_1 _ _ l0_2 t728 _ ?side1 ?side2 ?side3 ?side4 ?side5 ?side6 A17.out).mono ?_); (case side1 => repeat (first | exact (Kd.C_below HR0_0.out HB.out) | (with_reducible refine Kd.C_alloc ?_ _) | (with_reducible refine Kd.C_drewN ?_ _) | (with_reducible refine Kd.C_drew ?_))); (case side2 => exact HC0_0.out); (case side3 => repeat (first | exact (Kd.C_below HR0_1.out HB.out) | (with_reducible refine Kd.C_alloc ?_ _) | (with_reducible refine Kd.C_drewN ?_ _) | (with_reducible refine Kd.C_drew ?_))); (case side4 => exact HC0_1.out); (case side5 => repeat (first | exact (Kd.C_below HR0_2.out HB.out) | (with_reducible refine Kd.C_alloc ?_ _) | (with_reducible refine Kd.C_drewN ?_ _) | (with_reducible refine Kd.C_drew ?_))); (case side6 => exact HC0_2.out); rintro e w68 ⟨v729, rfl, ho0, hb⟩; refine ⟨_, rfl, ?_⟩; have n0_ := Aside0.mk (Kd.S_lower ho0 (below_size (by repeat (first | (with_reducible first | exact HB.out | apply below_alloc | apply pw_below_drewN | apply below_drew1 | refine below_set ?_ GE724.out) | exact HB.out)))); have n1_ := Aside0.mk (blk_below (g := gb724) (o := .cells #[.slice A0_0 l0_0.length c0_0, .slice A0_1 l0_1.length c0_1, .slice A0_2 l0_2.length c0_2] 26 (0, 0)) (by (with_reducible repeat (first | refine blk_drewN ?_ _ | refine blk_drew ?_ | refine blk_alloc ?_ _)); exact BK724.out) hb); have n2_ := Aside0.mk (below_step (by repeat (first | (with_reducible first | exact HB.out | apply below_alloc | apply pw_below_drewN | apply below_drew1 | refine below_set ?_ GE724.out) | exact HB.out)) hb); clear BK724; clear HB; have HO730 := n0_; have BK724 := n1_; have HB := n2_; clear n0_ n1_ n2_; (try clear hb); (try clear hb2); (try clear hk); (try clear hi); (try clear ho0); obtain ⟨Ao69, co69, eo69⟩ := Kd.S_slice HO730.out; subst eo69; have hcz70_0 : w68.cell? ⟨gb724, 0, none⟩ = some (.slice A0_0 l0_0.length c0_0) := (blk_cell BK724.out 0).trans rfl; have hcz70_1 : w68.cell? ⟨gb724, 1, none⟩ = some (.slice A0_1 l0_1.length c0_1) := (blk_cell BK724.out 1).trans rfl; have hcz70_2 : w68.cell? ⟨gb724, 2, none⟩ = some (.slice A0_2 l0_2.length c0_2) := (blk_cell BK724.out 2).trans rfl; have hfz70_0 := blk_frozen BK724.out 0; have hfz70_1 := blk_frozen BK724.out 1; have hfz70_2 := blk_frozen BK724.out 2))
            go_ret
            exact ⟨by first | rfl | (simp [errW_none, errW_some] <;> rfl) | (simp [*, errW_none, errW_some] <;> rfl), by repeat (first | (with_reducible first | exact HB.out | apply below_alloc | apply pw_below_drewN | apply below_drew1 | refine below_set ?_ GE724.out) | exact HB.out)⟩
  · replace c3 := Bool.eq_false_iff.mpr c3
    subst c3
    have H1 : (some false) = some r := by rw [if_neg (show ¬ (false = true) by decide)] at H; exact H
    clear H
    have H := H1
    clear H1
    obtain rfl := Option.some.inj H
    go_enter Try.func7, Try.ntmps7
    go_wp2_with (first | ((with_reducible refine gate_dst (N := 1) rfl ?_); refine box_event ?hg (N := 1) ?hd (cs := #[.slice A0_0 l0_0.length c0_0, .slice A0_1 l0_1.length c0_1, .slice A0_2 l0_2.length c0_2]) (t := 26) ?hr ?_; (case hd => rfl); (case hg => rfl); (case hr => first | (go_simp; done) | (go_simp; rfl)); intro gb724 hg w71 hbox hb; have n0_ := Aside0.mk (below_step (by repeat (first | (with_reducible first | exact HB.out | apply below_alloc | apply pw_below_drewN | apply below_drew1) | exact HB.out)) hb); have n1_ := Aside0.mk (hbox); have n2_ := Aside0.mk ((by rw [hg]; exact (below_size (by repeat (first | (with_reducible first | exact HB.out | apply below_alloc | apply pw_below_drewN | apply below_drew1) | exact HB.out))) : w.heap.size ≤ gb724)); have n3_ := Aside0.mk ((by rw [hg]; exact (below_size (by repeat (first | (with_reducible first | exact HB.out | apply below_alloc | apply pw_below_drewN | apply below_drew1) | exact HB.out))) : w.heap.size ≤ gb724)); clear HB; have HB := n0_; have BK724 := n1_; have GW724 := n2_; have GE724 := n3_; clear n0_ n1_ n2_ n3_; clear hb hbox hg) | ((with_reducible refine gate_callee (f := 9) rfl ?_); refine goesL_ (some 10) rfl rfl Try.func9 (by kernel_rfl) rfl #[] rfl (by (try simp only [List.map_toArray, List.map_cons, List.map_nil]); first | done | rfl | (simp only [List.length_drop, List.length_take]; rfl)) ?_; (with_reducible refine (seedcornlaw16_alive.calls  false _ A2.out).mono ?_); rintro e w72 ⟨rfl, hb⟩; refine ⟨_, rfl, ?_⟩; have n0_ := Aside0.mk (blk_below (g := gb724) (o := .cells #[.slice A0_0 l0_0.length c0_0, .slice A0_1 l0_1.length c0_1, .slice A0_2 l0_2.length c0_2] 26 (0, 0)) (by (with_reducible repeat (first | refine blk_drewN ?_ _ | refine blk_drew ?_ | refine blk_alloc ?_ _)); exact BK724.out) hb); have n1_ := Aside0.mk (below_step (by repeat (first | (with_reducible first | exact HB.out | apply below_alloc | apply pw_below_drewN | apply below_drew1 | refine below_set ?_ GE724.out) | exact HB.out)) hb); clear BK724; clear HB; have BK724 := n0_; have HB := n1_; clear n0_ n1_; (try clear hb); (try clear hb2); (try clear hk); (try clear hi)))
    go_ret
    exact ⟨by first | rfl | (simp [errW_none, errW_some] <;> rfl) | (simp [*, errW_none, errW_some] <;> rfl), by repeat (first | (with_reducible first | exact HB.out | apply below_alloc | apply pw_below_drewN | apply below_drew1 | refine below_set ?_ GE724.out) | exact HB.out)⟩

end Go.Proofs.Ytdpncghnlkgkdaa.G
