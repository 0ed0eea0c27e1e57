/- graph.Levels, walked: rows by height, or the error. Condition: there are at most 1000 things, of at most 1000 needs each. -/
import Derived.Test.YtdknnekkbhpjlaaPLv
set_option linter.unusedVariables false
set_option linter.unusedSimpArgs false
namespace Go.Proofs.Ytdknnekkbhpjlaa.H
open Go.RowKit Go.Proofs.YtdknnekkbhpjlaaW.PrintWords Go.Proofs.YtdknnekkbhpjlaaW.PrintLast Go.Proofs.YtdknnekkbhpjlaaW.PrintMore Go.Proofs.Ytdknnekkbhpjlaa.G

def levelsP (needs : List (List Int)) : List (List Int) × Int :=
  if rightB needs = true then (if cnt (hts needs) needs.length < needs.length then ([], 11) else (lvTo (hts needs) needs.length, 0)) else ([], 1)

theorem ne_map {wr : World} {gm g n : Nat} {M : Int → Option Int} {cs : Array Value} {t : TypeId} {fr : Nat × Nat} (km : KM wr gm n M) (hc : wr.heap[g]? = some (.cells cs t fr)) : g ≠ gm := by
  obtain ⟨D, ⟨es, cl, hm, _⟩, _⟩ := km
  rintro rfl
  rw [hm] at hc
  injection hc with hc
  cases hc
theorem R_ty {α : Type} {d : Kd α} {e base : Nat} {ok : Nat → Prop} {w : World} {v : Value} {xs : List α} (h : d.R e w base ok v xs) : ∀ q, v.ownBlock = some q → ∃ cells, w.heap[q]? = some (.cells cells e (0, 0)) := by
  intro q hq
  obtain ⟨inner, ho⟩ := Kd.R_own h
  exact own_typed ho q hq
theorem R_mapne {α : Type} {d : Kd α} {e base gm n : Nat} {M : Int → Option Int} {ok : Nat → Prop} {w : World} {v : Value} {xs : List α} (h : d.R e w base ok v xs) (km : KM w gm n M) : some gm ≠ v.ownBlock := fun e => by
  obtain ⟨cells, hc⟩ := R_ty h _ e.symm
  exact ne_map km hc rfl
def lenV : Value → Nat
  | .slice _ n _ => n
  | _ => 0
theorem padTo_snoc {out : List (List Int)} {h : Nat} (hl : out.length ≤ h) : padTo (out ++ [[]]) h = padTo out h := by
  unfold padTo
  rw [List.length_append, List.length_singleton, show h + 1 - out.length = (h + 1 - (out.length + 1)) + 1 by omega, List.replicate_succ, List.append_assoc]
  rfl
theorem padTo_full {out : List (List Int)} {h : Nat} (hl : h < out.length) : padTo out h = out := by
  unfold padTo
  rw [show h + 1 - out.length = 0 by omega, List.replicate_zero, List.append_nil]

set_option maxHeartbeats 4000000 in
set_option maxRecDepth 100000 in
theorem levels_calls (A : Option Addr) (c : Nat) (needs : List (List Int)) (w : World) (hr : Kd.C KI w A needs.length needs) (hc : needs.length ≤ c) (hL : Lens needs) :
    Calls Try.prog 11 #[.slice A needs.length c] w fun e w' => ∃ v, e = .returned (.tuple #[v, .int .i64 (levelsP needs).2]) ∧ Kd.S KI 25 w' w.heap.size (fun _ => True) v (levelsP needs).1 ∧ Below w.heap.size w w' := by
  obtain ⟨K, hK⟩ : ∃ K : Nat, 2000000 ≤ K := ⟨_, Nat.le_refl _⟩
  have hmf : ∀ (fn : Fn) (first cap : Array Value) (w : World), (Instr.makeFunc fn first cap).run Try.prog w = .ok (.func fn first cap) w := fun _ _ _ _ => rfl
  have eg := enters_of Try.func25 (by kernel_rfl) rfl
  cases hrb : rightB needs with
  | false =>
    have e : levelsP needs = ([], 1) := by unfold levelsP; rw [hrb]; rfl
    rw [e]
    have HRB := Aside0.mk hrb
    clear hrb e
    go_enter Try.func11, Try.ntmps11
    go_wp2_with (fail)
    refine (graph_right.calls K A c needs false _ (Kd.C_alloc hr _) hc (by rw [right_f hL hK, HRB.out])).mono ?_
    rintro e w1 ⟨rfl, hd⟩
    have HB := Aside0.mk (hd.below)
    clear hd
    go_wp2_with (fail)
    go_ret2
    exact ⟨_, rfl, Kd.S_nil _ _ _ _ _, below_then (below_alloc (Below.refl _ _) _) (by simp) HB.out⟩
  | true =>
    have HRB := Aside0.mk hrb
    clear hrb
    obtain ⟨lp, hlp⟩ : ∃ lp, lp = levelsP needs := ⟨_, rfl⟩
    rw [← hlp]
    have HLP := Aside0.mk hlp
    clear hlp
    have hla : ((List.range needs.length).map fun (i : Nat) => (i : Int)).length = needs.length := by simp
    go_enter Try.func11, Try.ntmps11
    go_wp2_with (fail)
    refine (graph_right.calls K A c needs true _ (Kd.C_alloc hr _) hc (by rw [right_f hL hK, HRB.out])).mono ?_
    rintro e w1 ⟨rfl, hd⟩
    have HB1 := Aside0.mk (below_then (below_alloc (Below.refl _ _) (.cells #[.slice A needs.length c] 24)) (by simp) hd.below)
    have hb1 := blk_below (blk_new w (.cells #[.slice A needs.length c] 24)) hd.below
    clear hd
    have z1 : w1.cell? ⟨w.heap.size, 0, none⟩ = some (.slice A needs.length c) := (blk_cell hb1 0).trans rfl
    go_wp2_with (fail)
    refine (things_calls A c needs _ (by have := hL.1; omega)).mono ?_
    rintro e w2 ⟨v, rfl, hR2, hB2⟩
    obtain ⟨A2, c2, rfl⟩ := Kd.R_slice hR2
    rw [hla]
    have hb2 := blk_below hb1 hB2
    have hC2 := (Kd.R_reads' hR2).2.2
    have hle2 := (Kd.R_reads' hR2).2.1
    rw [hla] at hle2
    have HB2 := Aside0.mk (below_then HB1.out HB1.out.size hB2)
    have z2 : w2.cell? ⟨w.heap.size, 0, none⟩ = some (.slice A needs.length c) := (blk_cell hb2 0).trans rfl
    have hr2 : Kd.C KI w2 A needs.length needs := Kd.C_below hr HB2.out
    clear hR2 hB2 hb1 z1 hr
    go_wp2_with (fail)
    have hh := heights_calls 25 w.heap.size eg A2 c2 ((List.range needs.length).map fun (i : Nat) => (i : Int)) needs w2 hC2 (by rw [hla]; exact hle2) rfl (by have := hL.1; omega) (rightB_true HRB.out) (next25 _ A c needs w2 hb2 hr2)
    rw [hla] at hh
    refine hh.mono ?_
    rintro e w3 ⟨gm, rfl, km3, hB3, hgm⟩
    have hb3 := blk_below hb2 hB3
    have z3 : w3.cell? ⟨w.heap.size, 0, none⟩ = some (.slice A needs.length c) := (blk_cell hb3 0).trans rfl
    have HB3 := Aside0.mk (below_then HB2.out HB2.out.size hB3)
    have hgm0 : w.heap.size < gm := by have := blk_lt hb2; omega
    have hcn := cnt_le (hts needs) needs.length
    clear hh hB3 hb2 z2 hC2 hr2 hgm hle2
    by_cases hct : cnt (hts needs) needs.length < needs.length
    · have e : lp = ([], 11) := by rw [HLP.out]; unfold levelsP; rw [if_pos HRB.out, if_pos hct]
      subst e
      go_wp2_with (at_len; refine IM.len rfl _ 42 rfl Try.underlying42 rfl km3 ?_)
      go_ret2
      exact ⟨_, rfl, Kd.S_nil _ _ _ _ _, HB3.out⟩
    · have hce : cnt (hts needs) needs.length = needs.length := by omega
      have e : lp = (lvTo (hts needs) needs.length, 0) := by rw [HLP.out]; unfold levelsP; rw [if_pos HRB.out, if_neg hct]
      subst e
      rw [hce] at km3
      clear hct hcn
      have HCE := Aside0.mk hce
      clear hce
      go_wp2_with (at_len; refine IM.len rfl _ 42 rfl Try.underlying42 rfl km3 ?_)
      have HLev := Aside0.mk (hts_lev needs)
      generalize hH : hts needs = H at *
      have HH := Aside0.mk hH
      clear hH
      go_loopw [5, 21] (fun v5 i wr => ∃ k : Nat, k ≤ needs.length ∧ i = .int .i64 k ∧ Aside0 (Kd.S KI 25 wr w.heap.size (fun _ => True) v5 (lvTo H k)) ∧ Aside0 (KM wr gm needs.length H) ∧ Aside0 (Below w.heap.size w wr)) (fun _ i _ => needs.length - (intOf i).toNat)
      case atStart => exact ⟨0, Nat.zero_le _, rfl, ⟨Kd.S_nil _ _ _ _ _⟩, ⟨km3⟩, HB3⟩
      case round =>
        clear HB3 km3 hb3 z3
        obtain ⟨k, hk, rfl, HS, HM, HB⟩ := hrel
        obtain ⟨wo, rfl⟩ : ∃ wo : World, wo = wr := ⟨_, rfl⟩
        by_cases hlt : k < needs.length
        · have hn1 := hL.1
          have hwk : (Lit.int .i64 (k : Int)).wf = true := wf64 (by omega) (by omega)
          have hgd := lev_getD HLev.out (k : Int)
          rw [HCE.out] at hgd
          have HLR := Aside0.mk (lvTo_row (M := H) k)
          have hLL := lvTo_length HLev.out k
          rw [HCE.out] at hLL
          obtain ⟨h, hh⟩ : ∃ h : Nat, (H (k : Int)).getD 0 = (h : Int) := ⟨((H (k : Int)).getD 0).toNat, by omega⟩
          have HHh := Aside0.mk hh
          rw [hh] at hgd
          clear hh
          have HST := Aside0.mk (show lvTo H (k + 1) = (padTo (lvTo H k) h).set h (rd_L1 (padTo (lvTo H k) h) (h : Int) ++ [(k : Int)]) by simp only [lvTo, lvStep]; rw [HHh.out, Int.toNat_natCast])
          obtain ⟨A5, c5, rfl⟩ := Kd.R_slice (Kd.S_R HS.out)
          go_wp2_with (fail)
          generalize lvTo H k = out0 at *
          go_loopw [5] (fun v5 wr => ∃ (out : List (List Int)) (A6 : Option Addr) (c6 : Nat), v5 = .slice A6 out.length c6 ∧ out.length ≤ 1001 ∧ Aside0 (Kd.S KI 25 wr w.heap.size (fun _ => True) v5 out) ∧ Aside0 (padTo out h = padTo out0 h) ∧ Aside0 (KM wr gm needs.length H) ∧ Aside0 (Below w.heap.size w wr)) (fun v5 _ => h + 1 - lenV v5)
          case atStart => exact ⟨out0, A5, c5, rfl, by omega, HS, ⟨rfl⟩, HM, HB⟩
          case round =>
            clear HS HM HB
            obtain ⟨out, A6, c6, rfl, hol, HS, HP, HM, HB⟩ := hrel
            obtain ⟨wi, rfl⟩ : ∃ wi : World, wi = wr := ⟨_, rfl⟩
            have hlk := IM.run_look (t := 42) Try.underlying42 Try.underlying3 Try.underlying3 (info3' _) HM.out hwk
            rw [HHh.out] at hlk
            by_cases hlo : out.length ≤ h
            · have hsz := HB.out.size
              go_wp2_with (at_builtin; refine Kd.S_append KI (w0 := wi) w.heap.size rfl (.tmp 30) (.tmp 31) 24 25 (.slice none 0 0) 24 rfl Try.underlying24 info25 rfl (by decide) (by omega) (.slice A6 out.length c6) out [] [.slice none 0 0] (fun _ => True) (fun _ => False) rfl rfl ⟨_, rfl, Kd.R_nil _ _ _ _ _⟩ (fun _ hk => hk.elim) (fun _ _ => trivial) (Kd.S_mono HS.out (fun _ _ => ⟨trivial, id⟩)) (Below.refl _ _) hsz (by omega) ?_)
              intro v1 w5 rS5 hB5 hg5 hat5
              obtain ⟨A7, c7, rfl⟩ := Kd.R_slice (Kd.S_R rS5)
              have HM5 := Aside0.mk (HM.out.kept hg5 (R_mapne (Kd.S_R HS.out) HM.out))
              have HB5 := Aside0.mk (HB.out.grown hg5 hsz (fun q e => (Kd.R_bound (Kd.S_R HS.out)).1 q e |>.2.1))
              have HS5 := Aside0.mk rS5
              clear rS5 hB5 hg5 hat5 hlk
              go_wp2_with (fail)
              go_roundw
              case rel => exact ⟨out ++ [[]], A7, c7, rfl, by simp; omega, HS5, ⟨by rw [padTo_snoc hlo]; exact HP.out⟩, HM5, HB5⟩
              case measure => simp [lenV]; omega
            · have hP := Aside0.mk (show out = padTo out0 h by rw [← HP.out, padTo_full (by omega)])
              go_wp2_with (fail)
              have hol1 : (h : Int) < out.length := by omega
              obtain ⟨adx, A0, c0, eA, hx0, hlx, _⟩ := at_L1 (Kd.S_reads' HS.out).2.2 (h : Int) (by omega) hol1
              obtain ⟨go, co, eo, gb, gl, cells, hcells⟩ := Kd.S_form HS.out (by omega)
              have hgo := (ne_map HM.out hcells).symm
              clear hcells cells
              injection eo with eo1 _ eo3
              subst eo1 eo3
              injection eA with eA
              subst eA
              simp only [add_plain, Int.toNat_natCast] at hx0
              obtain ⟨oki, ce, hcl, hM1, hcc, _, _, hH⟩ := Kd.S_elem HS.out [] (h : Int) (by omega) hol1
              obtain ⟨ve, rfl, ge⟩ := hM1
              have hv := hcc 0 _ rfl
              rw [Int.toNat_natCast, Nat.add_zero, show KI.sz = 1 from rfl, Nat.mul_one, hx0] at hv
              obtain rfl := Option.some.inj hv
              obtain ⟨x, hx⟩ : ∃ x, x = rd_L1 out (h : Int) := ⟨_, rfl⟩
              have HX := Aside0.mk hx
              rw [← hx] at hx0 ge hlx hH
              have UU : Kd.R (Kd.int .i64) 3 wi w.heap.size oki (.slice A0 x.length c0) x := by rw [hx]; rw [hx] at ge; exact ge
              have hxl : x.length ≤ k := by
                rw [hx, hP.out]
                unfold rd_L1
                rw [Int.toNat_natCast, List.getD_eq_getElem?_getD]
                cases e : (padTo out0 h)[h]? with
                | none => simp
                | some l =>
                  have := List.mem_of_getElem? e
                  simp only [padTo, List.mem_append] at this
                  rcases this with h1 | h1
                  · exact HLR.out l h1
                  · rw [List.eq_of_mem_replicate h1]; exact Nat.zero_le _
              have HM2 := Aside0.mk (HM.out.drew)
              have UU2 := Aside0.mk (Kd.R_drew UU)
              have HH2 := Aside0.mk (Kd.H_drew hH)
              have HB2' := Aside0.mk (below_drew HB.out)
              have hlk2 := IM.run_look (t := 42) Try.underlying42 Try.underlying3 Try.underlying3 (info3' _) HM2.out hwk
              rw [HHh.out] at hlk2
              have hx2 : wi.drew.cell? ⟨go, h, none⟩ = some (.slice A0 x.length c0) := hx0
              have gl2 : go < wi.drew.heap.size := gl
              clear hx hv hcc hcl ge hH UU hlk hx0 gl HS HM HB
              refine start_ (n := 15) (S := fun w' => Sem.run Try.prog (Instr.lookup 42 (.map (some gm)) (.int .i64 (k : Int)) false) w' = .ok (.int .i64 (h : Int)) w' ∧ w'.cell? ⟨go, h, none⟩ = some (.slice A0 x.length c0)) (ds := [14]) #[false, false, false, false, false, false, false, false, false, false, false, false, false, false, false] (by kernel_rfl) rfl rfl ⟨hlk2, hx2⟩ (fun hHeld => ?_)
              generalize wi.drew = W at *
              clear hlk2 hx2
              refine pure_ (i := 0) (N := some 33) (v := ?_) (a' := ?_) #[true, false, false, false, false, false, false, false, false, false, false, false, false, false, false] rfl rfl (by kernel_rfl) (fun _ _ _ h => h) (Or.inl ⟨by rfl, ?_⟩) ?_ ?_
              rotate_left
              · intro w'
                go_simp
                with_reducible rfl
              rotate_left
              · simp only [Act.put, List.setIfInBounds_toArray, List.set_cons_zero, List.set_cons_succ, i64_w, i32_w]
                rfl
              refine pure_ (i := 1) (N := some 34) (v := ?_) (a' := ?_) #[true, true, false, false, false, false, false, false, false, false, false, false, false, false, false] rfl rfl (by kernel_rfl) (fun _ _ _ h => h) (Or.inl ⟨by rfl, ?_⟩) ?_ ?_
              rotate_left
              · intro w'
                go_simp
                with_reducible rfl
              rotate_left
              · simp only [Act.put, List.setIfInBounds_toArray, List.set_cons_zero, List.set_cons_succ, i64_w, i32_w]
                rfl
              refine pure_ (i := 2) (N := some 35) (v := ?_) (a' := ?_) #[true, true, true, false, false, false, false, false, false, false, false, false, false, false, false] rfl rfl (by kernel_rfl) (fun _ _ _ h => h) (Or.inl ⟨by rfl, ?_⟩) ?_ ?_
              rotate_left
              · intro w'
                go_simp
                with_reducible rfl
              rotate_left
              · simp only [Act.put, List.setIfInBounds_toArray, List.set_cons_zero, List.set_cons_succ, i64_w, i32_w]
                rfl
              refine take_ (i := 3) (N := some 36) (v := ?_) (a' := ?_) #[true, true, true, true, false, false, false, false, false, false, false, false, false, false, false] rfl rfl (by kernel_rfl) (fun _ _ _ h => h) (Or.inl ⟨by rfl, ?_⟩) hHeld ?_ ?_
              rotate_left
              · rintro w' ⟨s0, s1⟩
                go_simp
                with_reducible rfl
              rotate_left
              · simp only [Act.put, List.setIfInBounds_toArray, List.set_cons_zero, List.set_cons_succ, i64_w, i32_w]
                rfl
              refine pure_ (i := 4) (N := some 37) (v := ?_) (a' := ?_) #[true, true, true, true, true, false, false, false, false, false, false, false, false, false, false] rfl rfl (by kernel_rfl) (fun _ _ _ h => h) (Or.inl ⟨by rfl, ?_⟩) ?_ ?_
              rotate_left
              · intro w'
                go_simp
                with_reducible rfl
              rotate_left
              · simp only [Act.put, List.setIfInBounds_toArray, List.set_cons_zero, List.set_cons_succ, i64_w, i32_w]
                rfl
              refine pure_ (i := 5) (N := some 38) (v := ?_) (a' := ?_) #[true, true, true, true, true, true, false, false, false, false, false, false, false, false, false] rfl rfl (by kernel_rfl) (fun _ _ _ h => h) (Or.inl ⟨by rfl, ?_⟩) ?_ ?_
              rotate_left
              · intro w'
                go_simp
                with_reducible rfl
              rotate_left
              · simp only [Act.put, List.setIfInBounds_toArray, List.set_cons_zero, List.set_cons_succ, i64_w, i32_w]
                rfl
              refine pure_ (i := 6) (N := some 39) (v := ?_) (a' := ?_) #[true, true, true, true, true, true, true, false, false, false, false, false, false, false, false] rfl rfl (by kernel_rfl) (fun _ _ _ h => h) (Or.inl ⟨by rfl, ?_⟩) ?_ ?_
              rotate_left
              · intro w'
                go_simp
                with_reducible rfl
              rotate_left
              · simp only [Act.put, List.setIfInBounds_toArray, List.set_cons_zero, List.set_cons_succ, i64_w, i32_w]
                rfl
              refine take_ (i := 7) (N := some 40) (v := ?_) (a' := ?_) #[true, true, true, true, true, true, true, true, false, false, false, false, false, false, false] rfl rfl (by kernel_rfl) (fun _ _ _ h => h) (Or.inl ⟨by rfl, ?_⟩) hHeld ?_ ?_
              rotate_left
              · rintro w' ⟨s0, s1⟩
                go_simp
                with_reducible rfl
              rotate_left
              · simp only [Act.put, List.setIfInBounds_toArray, List.set_cons_zero, List.set_cons_succ, i64_w, i32_w]
                rfl
              refine pure_ (i := 8) (N := some 41) (v := ?_) (a' := ?_) #[true, true, true, true, true, true, true, true, true, false, false, false, false, false, false] rfl rfl (by kernel_rfl) (fun _ _ _ h => h) (Or.inl ⟨by rfl, ?_⟩) ?_ ?_
              rotate_left
              · intro w'
                go_simp
                with_reducible rfl
              rotate_left
              · simp only [Act.put, List.setIfInBounds_toArray, List.set_cons_zero, List.set_cons_succ, i64_w, i32_w]
                rfl
              refine take_ (i := 9) (N := some 42) (v := ?_) (a' := ?_) #[true, true, true, true, true, true, true, true, true, true, false, false, false, false, false] rfl rfl (by kernel_rfl) (fun _ _ _ h => h) (Or.inl ⟨by rfl, ?_⟩) hHeld ?_ ?_
              rotate_left
              · rintro w' ⟨s0, s1⟩
                go_simp
                with_reducible rfl
              rotate_left
              · simp only [Act.put, List.setIfInBounds_toArray, List.set_cons_zero, List.set_cons_succ, i64_w, i32_w]
                rfl
              refine pure_ (i := 10) (N := some 43) (v := ?_) (a' := ?_) #[true, true, true, true, true, true, true, true, true, true, true, false, false, false, false] rfl rfl (by kernel_rfl) (fun _ _ _ h => h) (Or.inl ⟨by rfl, ?_⟩) ?_ ?_
              rotate_left
              · intro w'
                go_simp
                with_reducible rfl
              rotate_left
              · simp only [Act.put, List.setIfInBounds_toArray, List.set_cons_zero, List.set_cons_succ, i64_w, i32_w]
                rfl
              refine one_ (i := 11) (N := some 44) #[true, true, true, true, true, true, true, true, true, true, true, true, false, false, false] rfl rfl (by kernel_rfl) (by decide) (fun K' hK => ?_)
              refine value_ (v := .slice (some ⟨W.heap.size, 0, none⟩) 1 1) (w1 := W.alloc (.cells #[.int .i64 (k : Int)] 3)) (by rfl) rfl (by go_simp) ?_
              have HM3 := Aside0.mk (HM2.out.alloc (.cells #[.int .i64 (k : Int)] 3))
              have UU3 := Aside0.mk (Kd.R_alloc UU2.out (.cells #[.int .i64 (k : Int)] 3))
              have HH3 := Aside0.mk (Kd.H_alloc HH2.out (.cells #[.int .i64 (k : Int)] 3))
              have HB3' := Aside0.mk (below_alloc HB2'.out (.cells #[.int .i64 (k : Int)] 3))
              have hlk3 := IM.run_look (t := 42) Try.underlying42 Try.underlying3 Try.underlying3 (info3' _) HM3.out hwk
              rw [HHh.out] at hlk3
              have hx3 := ((Kd.H_at HH3.out (by omega) hol1).1 0 _ rfl)
              rw [Int.toNat_natCast, Nat.add_zero, show KI.sz = 1 from rfl, Nat.mul_one] at hx3
              refine hK.out _ _ ⟨hlk3, hx3⟩ (fun hHeld => ?_)
              clear hK K' hlk3 hx3
              refine norm_ (a' := ?_) ?_ ?_
              rotate_left
              · show Act.put _ (some 44) _ = _
                simp only [Act.put, List.setIfInBounds_toArray, List.set_cons_zero, List.set_cons_succ, i64_w, i32_w]
                rfl
              refine one_ (i := 12) (N := some 45) #[true, true, true, true, true, true, true, true, true, true, true, true, true, false, false] rfl rfl (by kernel_rfl) (by decide) (fun K' hK => ?_)
              refine Kd.R_append_step (Kd.int .i64) (w0 := W) w.heap.size (by rfl) (.tmp 42) (.tmp 44) 25 3 (.int .i64 0) 8 rfl Try.underlying25 info3 rfl (by decide) (by omega) (.slice A0 x.length c0) x (k : Int) [.int .i64 (k : Int)] (fun q => oki q ∨ True ∧ W.heap.size ≤ q) (fun _ => False) rfl rfl rfl (fun _ h => h.elim) (fun q hq => .inr ⟨trivial, hq⟩) (Kd.R_mono UU2.out (fun _ h => .inl h)) (Below.refl _ _) HB2'.out.size (by omega) (fun v1 w5 ho hb5 hg5 hat5 => ?_)
              obtain ⟨Ao, co, rfl⟩ := Kd.R_slice ho
              have HM5 := Aside0.mk (HM2.out.kept hg5 (R_mapne UU2.out HM2.out))
              have HH5 := Aside0.mk (Kd.H_grown (Kd.H_widen HH2.out) hg5 (fun q e => .inl (UU2.out.1 q e)))
              have HB5' := Aside0.mk (HB2'.out.grown hg5 HB2'.out.size (fun q e => (Kd.R_bound UU2.out).1 q e |>.2.1))
              have HO5 := Aside0.mk ho
              have hlk5 := IM.run_look (t := 42) Try.underlying42 Try.underlying3 Try.underlying3 (info3' _) HM5.out hwk
              rw [HHh.out] at hlk5
              obtain ⟨hx5, hf5⟩ := Kd.H_at HH5.out (by omega) hol1
              replace hx5 := hx5 0 _ rfl
              replace hf5 := hf5 0
              rw [Int.toNat_natCast, Nat.add_zero, show KI.sz = 1 from rfl, Nat.mul_one] at hx5 hf5
              refine hK.out _ _ ⟨hlk5, hx5⟩ (fun hHeld => ?_)
              clear hK K' hlk5 ho hb5 hg5 hat5 HM2 HH2 HH3 HM3 UU2 UU3 HB2' HB3'
              refine norm_ (a' := ?_) ?_ ?_
              rotate_left
              · show Act.put _ (some 45) _ = _
                simp only [Act.put, List.setIfInBounds_toArray, List.set_cons_zero, List.set_cons_succ, i64_w, i32_w]
                rfl
              refine pure_ (i := 13) (N := some 46) (v := ?_) (a' := ?_) #[true, true, true, true, true, true, true, true, true, true, true, true, true, true, false] rfl rfl (by kernel_rfl) (fun _ _ _ h => h) (Or.inl ⟨by rfl, ?_⟩) ?_ ?_
              rotate_left
              · intro w'
                go_simp
                with_reducible rfl
              rotate_left
              · simp only [Act.put, List.setIfInBounds_toArray, List.set_cons_zero, List.set_cons_succ, i64_w, i32_w]
                rfl
              refine last_ (i := 14) (N := none) #[true, true, true, true, true, true, true, true, true, true, true, true, true, true, true] rfl rfl (by kernel_rfl) (by decide) (fun K' hK => ?_)
              refine skip_ (w1 := w5.setCell ⟨go, h, none⟩ (.slice Ao (x ++ [(k : Int)]).length co)) (by rfl) rfl (by go_simp) ?_
              refine hK.out _ _ ?_
              clear hK K'
              refine done_ (by kernel_rfl) ?_
              have HP5 := Kd.S_seg0 HH5.out (by omega) hol1 (seg := [.slice Ao (x ++ [(k : Int)]).length co]) (j := 0) (show 1 ≤ 1 from by decide) (x' := x ++ [(k : Int)]) (Kd.M_row HO5.out) (fun _ hk => hk)
              rw [Int.toNat_natCast, show KI.sz = 1 from rfl, Nat.mul_one, Nat.add_zero] at HP5
              have HS6 := Aside0.mk (show Kd.S KI 25 (w5.setCell ⟨go, h, none⟩ (.slice Ao (x ++ [(k : Int)]).length co)) w.heap.size (fun _ => True) (.slice (some ⟨go, 0, none⟩) out.length c6) (out.set h (x ++ [(k : Int)])) from HP5.1)
              have HM6 := Aside0.mk (HM5.out.setCell (a := ⟨go, h, none⟩) hgo (.slice Ao (x ++ [(k : Int)]).length co))
              have HB6 := Aside0.mk (HB5'.out.setCell (p := ⟨go, h, none⟩) gb (.slice Ao (x ++ [(k : Int)]).length co))
              clear HP5 HH5 HM5 HB5' HO5 hx5 hf5 hgo
              simp only [List.length_append, List.length_singleton] at HS6 HM6 HB6
              go_wp2_with (fail)
              go_roundw
              case rel =>
                have e : lvTo H (k + 1) = out.set h (x ++ [(k : Int)]) := by rw [HST.out, ← hP.out, ← HX.out]
                exact ⟨k + 1, hlt, by go_num, ⟨by rw [e]; exact HS6.out⟩, HM6, HB6⟩
              case measure => simp [intOf]; omega
        · obtain rfl : k = needs.length := by omega
          obtain ⟨A5, c5, rfl⟩ := Kd.R_slice (Kd.S_R HS.out)
          go_wp2_with (fail)
          go_ret2
          exact ⟨_, rfl, by rw [HH.out]; exact HS.out, HB.out⟩
end Go.Proofs.Ytdknnekkbhpjlaa.H
namespace Go.Proofs.Ytdknnekkbhpjlaa.G
open Go.RowKit Go.Proofs.YtdknnekkbhpjlaaW.PrintWords Go.Proofs.YtdknnekkbhpjlaaW.PrintLast Go.Proofs.YtdknnekkbhpjlaaW.PrintMore
open H

instance decLens (l : List (List Int)) : Decidable (Lens l) := by unfold Lens; infer_instance
def graph_Levels.f (l : List (List Int)) : Option ((List (List Int)) × Int) := if Lens l then some (levelsP l) else none
theorem graph_Levels.ok {l : List (List Int)} (h : Lens l) : graph_Levels.f l = some (levelsP l) := if_pos h
theorem graph_Levels.calls (A0 : Option Addr) (c0 : Nat) (l0 : List (List Int)) (r1 : List (List Int)) (r2 : Int) (w : World) (hr0 : Kd.C (Kd.slice 3 (Kd.int .i64)) w A0 l0.length l0) (hc0 : l0.length ≤ c0) (h : graph_Levels.f l0 = some (r1, r2)) :
    Calls Try.prog 11 #[.slice A0 l0.length c0] w fun e w' => ∃ v0_ : Value, e = .returned (.tuple #[v0_, .int .i64 r2]) ∧ Kd.S (Kd.slice 3 (Kd.int .i64)) 25 w' w.heap.size (fun _ => True) v0_ r1 ∧ Below w.heap.size w w' := by
  by_cases hk : Lens l0
  · rw [graph_Levels.ok hk] at h
    injection h with h
    have h1 : r1 = (levelsP l0).1 := by rw [h]
    have h2 : r2 = (levelsP l0).2 := by rw [h]
    subst h1 h2
    exact levels_calls _ _ _ w hr0 hc0 hk
  · rw [show graph_Levels.f l0 = none from if_neg hk] at h
    cases h
end Go.Proofs.Ytdknnekkbhpjlaa.G
