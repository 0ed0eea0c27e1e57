/- graph.heights and the literals that hand it what one needs, walked. Condition: things and needs lie in memory, and all needs are things. -/
import Derived.Test.YtdknnekkbhpjlaaPHt
import Derived.Test.YtdknnekkbhpjlaaG0
import Derived.Shelf.GgClosure.Gives
import Derived.WalkKit
import Derived.BigQuiet
set_option linter.unusedVariables false
set_option linter.unusedSimpArgs false
namespace Go.Proofs.Ytdknnekkbhpjlaa.H
open Go.RowKit Go.Proofs.YtdknnekkbhpjlaaW.PrintWords Go.Proofs.YtdknnekkbhpjlaaW.PrintLast Go.Proofs.YtdknnekkbhpjlaaW.PrintMore Go.Proofs.Ytdknnekkbhpjlaa.G

abbrev KI : Kd (List Int) := Kd.slice 3 (Kd.int .i64)
abbrev KM := IM.Is Try.prog 3 3 .i64

attribute [local go_sem] max2_int max_two
/-- A literal that hands back what thing i needs. -/
def Next (g B : Nat) (needs : List (List Int)) (w : World) : Prop :=
  ∀ (W : World) (i : Nat), Below w.heap.size w W → i < needs.length → Calls Try.prog g #[.int .i64 i, .pointer (some ⟨B, 0, none⟩)] W fun e W' =>
    ∃ A c, e = .returned (.slice A (nd needs i).length c) ∧ (nd needs i).length ≤ c ∧ (Kd.int .i64).C w A (nd needs i).length (nd needs i) ∧ W' = W
theorem rd_nd (needs : List (List Int)) (i : Nat) : rd_L1 needs (i : Int) = nd needs i := by simp [rd_L1, nd]
theorem next25 (B : Nat) (A : Option Addr) (c : Nat) (needs : List (List Int)) (w : World) (hb : w.heap[B]? = some (.cells #[.slice A needs.length c] 24 (0, 0))) (hr : Kd.C KI w A needs.length needs) : Next 25 B needs w := by
  intro W i hW hi
  obtain ⟨ad, A0, c0, rfl, x0, hl, hC⟩ := at_L1 hr (i : Int) (by omega) (by omega)
  rw [rd_nd] at x0 hl hC
  replace x0 := pw_cell_below hW x0
  have z : W.cell? ⟨B, 0, none⟩ = some (.slice (some ad) needs.length c) := (blk_cell (blk_below hb hW) 0).trans rfl
  simp only [Int.toNat_natCast] at x0
  go_enter Try.func25, Try.ntmps25
  go_wp2
  go_ret
  exact ⟨A0, c0, rfl, hl, hC, rfl⟩
theorem next26 (B : Nat) (A : Option Addr) (c : Nat) (needs : List (List Int)) (w : World) (hb : w.heap[B]? = some (.cells #[.slice A needs.length c] 24 (0, 0))) (hr : Kd.C KI w A needs.length needs) : Next 26 B needs w := by
  intro W i hW hi
  obtain ⟨ad, A0, c0, rfl, x0, hl, hC⟩ := at_L1 hr (i : Int) (by omega) (by omega)
  rw [rd_nd] at x0 hl hC
  replace x0 := pw_cell_below hW x0
  have z : W.cell? ⟨B, 0, none⟩ = some (.slice (some ad) needs.length c) := (blk_cell (blk_below hb hW) 0).trans rfl
  simp only [Int.toNat_natCast] at x0
  go_enter Try.func26, Try.ntmps26
  go_wp2
  go_ret
  exact ⟨A0, c0, rfl, hl, hC, rfl⟩

theorem info3' (w : World) : (zeroValue 3).run Try.prog w = .ok (.int .i64 0) w := by kernel_rfl
theorem take_nd {needs : List (List Int)} {k j : Nat} (h : j < (nd needs k).length) : (nd needs k).take (j + 1) = (nd needs k).take j ++ [rd (nd needs k) (j : Int)] := by
  unfold rd
  rw [Int.toNat_natCast, List.getD_eq_getElem?_getD, List.getElem?_eq_getElem h, List.take_succ_eq_append_getElem h]
  rfl
theorem wf64 {i : Int} (h0 : -9223372036854775808 ≤ i) (h1 : i ≤ 9223372036854775807) : (Lit.int .i64 i).wf = true := by
  simp only [Lit.wf, Bool.and_eq_true, decide_eq_true_eq, show IntKind.i64.min = -9223372036854775808 from rfl, show IntKind.i64.max = 9223372036854775807 from rfl]
  exact ⟨h0, h1⟩
/-- All needs are things. -/
def Right (needs : List (List Int)) : Prop := ∀ l ∈ needs, ∀ j ∈ l, 0 ≤ j ∧ j < needs.length

set_option maxHeartbeats 2000000 in
set_option maxRecDepth 100000 in
theorem heights_calls (g B : Nat) (eg : ∀ args w, (callFunc g args).run Try.prog w = .ok (.enter g args) w) (A : Option Addr) (c : Nat) (all : List Int) (needs : List (List Int)) (w : World)
    (hr : Kd.C (Kd.int .i64) w A all.length all) (hc : all.length ≤ c) (hall : all = (List.range needs.length).map fun (i : Nat) => (i : Int)) (hn : needs.length ≤ 100000) (hR : Right needs) (hN : Next g B needs w) :
    Calls Try.prog 23 #[.slice A all.length c, .func (.func g) #[] #[.pointer (some ⟨B, 0, none⟩)]] w fun e w' => ∃ b, e = .returned (.map (some b)) ∧ KM w' b (cnt (hts needs) needs.length) (hts needs) ∧ Below w.heap.size w w' ∧ w.heap.size ≤ b := by
  have hmm := @run_makeMap Try.prog
  have hla : all.length = needs.length := by rw [hall]; simp
  rw [hla] at hr hc ⊢
  clear hla
  have HA := Aside0.mk hall
  clear hall
  go_enter Try.func23, Try.ntmps23
  go_wp2_with (fail)
  go_loopg [6] (needs.length + 1) (fun f v6 wr => ∃ (M : Mp) (more : Bool), v6 = .bool more ∧ Aside0 (KM wr w.heap.size (cnt M needs.length) M) ∧ Aside0 (Dom needs.length M) ∧ Aside0 (Lev (cnt M needs.length) M) ∧ Aside0 (Below w.heap.size w wr) ∧ Aside0 (more = true → iter needs f M = hts needs ∧ needs.length < f + cnt M needs.length) ∧ Aside0 (more = false → M = hts needs))
  case atStart => exact ⟨fun _ => none, true, rfl, ⟨by rw [cnt_none]; exact IM.Is.made _⟩, ⟨fun i h => by cases h⟩, ⟨lev_none _⟩, ⟨below_alloc (Below.refl _ _) _⟩, ⟨fun _ => ⟨rfl, by rw [cnt_none]; omega⟩⟩, ⟨fun h => by cases h⟩⟩
  case round =>
    obtain ⟨M, more, rfl, HK, HD, HL, HB, H1, H2⟩ := hrel
    obtain ⟨wo, rfl⟩ : ∃ wo : World, wo = wr := ⟨_, rfl⟩
    cases more with
    | false =>
      have h2 := H2.out rfl
      subst h2
      go_wp2_with (fail)
      go_ret
      exact ⟨_, rfl, HK.out, HB.out, Nat.le_refl _⟩
    | true =>
      go_wp2_with (fail)
      go_loopw [6, 21] (fun v6 i wr => ∃ k : Nat, k ≤ needs.length ∧ i = .int .i64 k ∧ v6 = .bool (passB needs M k) ∧ Aside0 (KM wr w.heap.size (cnt (passM needs M k) needs.length) (passM needs M k)) ∧ Aside0 (Below w.heap.size w wr)) (fun _ i _ => needs.length - (intOf i).toNat)
      case atStart => exact ⟨0, Nat.zero_le _, rfl, rfl, HK, HB⟩
      case round =>
        clear HK HB
        obtain ⟨k, hk, rfl, rfl, HK, HB⟩ := hrel
        obtain ⟨wi, rfl⟩ : ∃ wi : World, wi = wr := ⟨_, rfl⟩
        by_cases hlt : k < needs.length
        · obtain ⟨ad, rfl, hcell⟩ := Kd.at_int (Kd.C_below hr HB.out) (k : Int) (by omega) (by omega)
          have hrd : rd all (k : Int) = (k : Int) := by
            rw [HA.out]
            simp [rd, hlt]
          rw [hrd, Int.toNat_natCast] at hcell
          clear hrd
          have HKk := HK.out
          have HLk := Aside0.mk (lev_pass (needs := needs) HL.out k hk)
          have hnk := Aside0.mk (fun j hj => hR (nd needs k) (by unfold nd; rw [List.getD_eq_getElem?_getD, List.getElem?_eq_getElem hlt]; exact List.getElem_mem hlt) j hj)
          have hck := cnt_le (passM needs M k) needs.length
          generalize hM1 : passM needs M k = M1 at *
          have HM1 := Aside0.mk hM1
          clear hM1
          have hwk : (Lit.int .i64 (k : Int)).wf = true := wf64 (by omega) (by omega)
          cases hd : (M1 (k : Int)).isSome with
          | true =>
            have hd' := Aside0.mk hd
            go_wp2_with (at_lookup; refine IM.look rfl _ _ 42 rfl Try.underlying42 Try.underlying3 Try.underlying3 (info3' _) rfl HKk (k : Int) rfl hwk ?_; rw [hd])
            go_roundw
            case rel =>
              have hs : stepM needs M1 k = M1 := by unfold stepM addB; rw [hd'.out]; simp
              have ha : addB needs M1 k = false := by unfold addB; rw [hd'.out]; rfl
              exact ⟨k + 1, hlt, by go_num, by simp only [passB]; rw [HM1.out, ha, Bool.or_false], ⟨by simp only [passM]; rw [HM1.out, hs]; exact HK.out⟩, HB⟩
            case measure => simp [intOf]; omega
          | false =>
            have hd' := Aside0.mk hd
            have hcall := hN wi k HB.out hlt
            go_wp2_with (first | (at_lookup; refine IM.look rfl _ _ 42 rfl Try.underlying42 Try.underlying3 Try.underlying3 (info3' _) rfl HKk (k : Int) rfl hwk ?_; rw [hd]) | (go_at_fn g; refine hcall.mono ?_; rintro e w' ⟨A1, c1, rfl, hl1, hC1, rfl⟩))
            have hnl := Kd.C_max hC1
            clear hcall hl1 hcell
            go_loopw [11, 12, 36] (fun v11 v12 i wr => ∃ j : Nat, j ≤ (nd needs k).length ∧ i = .int .i64 j ∧ v11 = .int .i64 (lvF M1 0 ((nd needs k).take j)) ∧ v12 = .bool (rdF M1 ((nd needs k).take j)) ∧ wr = w') (fun _ _ i _ => (nd needs k).length - (intOf i).toNat)
            case atStart => exact ⟨0, Nat.zero_le _, rfl, rfl, rfl, rfl⟩
            case round =>
              obtain ⟨j, hj, rfl, rfl, rfl, rfl⟩ := hrel
              by_cases hlj : j < (nd needs k).length
              · obtain ⟨ad2, rfl, hcell⟩ := Kd.at_int (Kd.C_below hC1 HB.out) (j : Int) (by omega) (by omega)
                rw [Int.toNat_natCast] at hcell
                have hl2 := lvF_snoc M1 0 ((nd needs k).take j) (rd (nd needs k) (j : Int))
                have hr2 := rdF_snoc M1 ((nd needs k).take j) (rd (nd needs k) (j : Int))
                rw [← take_nd hlj] at hl2 hr2
                have hx := hnk.out (rd (nd needs k) (j : Int)) (by unfold rd; rw [Int.toNat_natCast, List.getD_eq_getElem?_getD, List.getElem?_eq_getElem hlj]; exact List.getElem_mem hlj)
                generalize rd (nd needs k) (j : Int) = x at *
                obtain ⟨hx0, hx1⟩ := hx
                obtain ⟨hg0, hg1⟩ := lev_getD HLk.out x
                obtain ⟨hv0, hv1⟩ := lvF_bd HLk.out ((nd needs k).take j) 0 (by omega) (by omega)
                have HL2 := Aside0.mk hl2
                have HR2 := Aside0.mk hr2
                clear hl2 hr2
                generalize lvF M1 0 ((nd needs k).take j) = lv at *
                generalize rdF M1 ((nd needs k).take j) = rdy at *
                have hwx : (Lit.int .i64 x).wf = true := wf64 (by omega) (by omega)
                cases rdy <;> cases hdn : (M1 x).isSome
                all_goals
                  rw [hdn] at HR2
                  have hdn' := Aside0.mk hdn
                  clear hdn
                  go_wp2_with (at_lookup; refine IM.look rfl _ _ 42 rfl Try.underlying42 Try.underlying3 Try.underlying3 (info3' _) rfl HKk x rfl hwx ?_; rw [hdn'.out])
                  go_roundw
                  case rel => exact ⟨j + 1, hlj, by go_num, by rw [HL2.out], by rw [HR2.out]; rfl, by first | exact trivial | rfl⟩
                  case measure => simp [intOf]; omega
              · have hjl : j = (nd needs k).length := by omega
                rw [hjl, List.take_length]
                have hlv := lvF_bd HLk.out (nd needs k) 0 (by omega) (by omega)
                generalize hl3 : lvF M1 0 (nd needs k) = lv at *
                have HL3 := Aside0.mk hl3
                clear hl3
                cases hrd : rdF M1 (nd needs k) with
                | false =>
                  have hrd' := Aside0.mk hrd
                  clear hrd
                  go_wp2_with (fail)
                  go_roundw
                  case rel =>
                    have ha : addB needs M1 k = false := by unfold addB; rw [hrd'.out, Bool.and_false]
                    have hs : stepM needs M1 k = M1 := by unfold stepM; rw [ha]; simp
                    exact ⟨k + 1, hlt, by go_num, by simp only [passB]; rw [HM1.out, ha, Bool.or_false], ⟨by simp only [passM]; rw [HM1.out, hs]; exact HK.out⟩, HB⟩
                  case measure => simp [intOf]; omega
                | true =>
                  have hrd' := Aside0.mk hrd
                  clear hrd
                  have hwl : (Lit.int .i64 lv).wf = true := wf64 (by omega) (by omega)
                  go_wp2_with (at_mapUpdate; refine IM.put rfl _ _ _ 42 rfl Try.underlying42 Try.underlying3 Try.underlying3 rfl HKk (by unfold maxLen; omega) (k : Int) lv rfl hwk rfl hwl ?_; rw [hd'.out])
                  intro w3 km3 g3
                  have HK3 := Aside0.mk km3
                  have HB3 := Aside0.mk (HB.out.grown g3 HB.out.size (fun q e => by injection e with e; omega))
                  clear km3 g3
                  go_wp2_with (fail)
                  go_roundw
                  case rel =>
                    have ha : addB needs M1 k = true := by unfold addB; rw [hrd'.out, hd'.out]; rfl
                    have hs : stepM needs M1 k = IM.upd M1 k (some lv) := by unfold stepM; rw [ha, if_pos rfl, HL3.out]
                    have hcs := cnt_step (needs := needs) (M := M1) hlt
                    rw [hs, ha] at hcs
                    exact ⟨k + 1, hlt, by go_num, by simp only [passB]; rw [HM1.out, ha, Bool.or_true], ⟨by simp only [passM]; rw [HM1.out, hs, hcs]; exact HK3.out⟩, HB3⟩
                  case measure => simp [intOf]; omega
        · have hkl : k = needs.length := by omega
          rw [hkl] at HK ⊢
          go_wp2_with (fail)
          cases gk with
          | zero => have := cnt_le M needs.length; have := (H1.out (by first | rfl | trivial)).2; omega
          | succ f =>
            go_roundg f
            case measure => omega
            case rel =>
              obtain ⟨h1, h2⟩ := H1.out (by first | rfl | trivial)
              have hp := cnt_pass (needs := needs) (M := M) (n := needs.length) needs.length (Nat.le_refl _)
              refine ⟨passM needs M needs.length, passB needs M needs.length, rfl, HK, ⟨dom_pass HD.out _ (Nat.le_refl _)⟩, ⟨lev_pass HL.out _ (Nat.le_refl _)⟩, HB, ⟨fun hb => ?_⟩, ⟨fun hb => ?_⟩⟩
              · rw [if_pos hb] at hp
                simp only [iter] at h1
                rw [if_pos hb] at h1
                exact ⟨h1, by omega⟩
              · simp only [iter] at h1
                rw [hb] at h1
                rw [pass_same _ hb]
                simpa using h1
end Go.Proofs.Ytdknnekkbhpjlaa.H
