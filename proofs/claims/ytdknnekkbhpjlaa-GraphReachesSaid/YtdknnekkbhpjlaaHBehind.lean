/- graph.Behind, walked: all that one needs, in order. Condition: there are at most 1000 things, of at most 1000 needs each. -/
import Derived.Test.YtdknnekkbhpjlaaPBh
import Derived.Test.YtdknnekkbhpjlaaHOrder
import Derived.Test.YtdknnekkbhpjlaaHCircle
set_option linter.unusedVariables false
set_option linter.unusedSimpArgs false
namespace Go.Proofs.Ytdknnekkbhpjlaa.H
open Go.Sort Go.RowKit Go.Proofs.YtdknnekkbhpjlaaW.PrintWords Go.Proofs.YtdknnekkbhpjlaaW.PrintLast Go.Proofs.YtdknnekkbhpjlaaW.PrintMore Go.Proofs.Ytdknnekkbhpjlaa.G

abbrev KB := IB.Is Try.prog 3 4
theorem info4' (w : World) : (zeroValue 4).run Try.prog w = .ok (.bool false) w := by kernel_rfl
theorem R_mapneB {α : Type} {d : Kd α} {e base gm n : Nat} {S : Int → Bool} {ok : Nat → Prop} {w : World} {v : Value} {xs : List α} (h : d.R e w base ok v xs) (km : KB w gm n S) : some gm ≠ v.ownBlock := fun e => by
  obtain ⟨cells, hc⟩ := R_ty h _ e.symm
  obtain ⟨D, ⟨es, cl, hm, _⟩, _⟩ := km
  rw [hm] at hc
  injection hc with hc
  cases hc
theorem R_itne {α : Type} {d : Kd α} {e base gm r n cnt : Nat} {S : Int → Bool} {ys : List Int} {ok : Nat → Prop} {w : World} {v : Value} {xs : List α} (h : d.R e w base ok v xs) (km : IB.Round Try.prog 3 4 w gm r n S ys cnt) : some gm ≠ v.ownBlock ∧ some r ≠ v.ownBlock := by
  obtain ⟨D, left, ⟨es, clock, since, seen, c0, hb, _, _, _, hr, _⟩, _⟩ := km
  refine ⟨fun e => ?_, fun e => ?_⟩
  · obtain ⟨cells, hc⟩ := R_ty h _ e.symm
    rw [hb] at hc
    injection hc with hc
    cases hc
  · obtain ⟨cells, hc⟩ := R_ty h _ e.symm
    rw [hr] at hc
    injection hc with hc
    cases hc
theorem rd_last {td : List Int} {m : Nat} (h : td.length = m + 1) : (td.length : Int) - 1 = (m : Int) := by omega

set_option maxHeartbeats 4000000 in
set_option maxRecDepth 100000 in
theorem behind_calls (A : Option Addr) (c : Nat) (needs : List (List Int)) (i : Int) (w : World) (hr : Kd.C KI w A needs.length needs) (hc : needs.length ≤ c) (hL : Lens needs) :
    Calls Try.prog 19 #[.slice A needs.length c, .int .i64 i] w fun e w' => ∃ v, e = .returned (.tuple #[v, .int .i64 (behindP needs i).2]) ∧ Kd.R (Kd.int .i64) 3 w' w.heap.size (fun _ => True) v (behindP needs i).1 ∧ Below w.heap.size w w' := by
  obtain ⟨K, hK⟩ : ∃ K : Nat, 2000000 ≤ K := ⟨_, Nat.le_refl _⟩
  have hmm := @run_makeMap Try.prog
  obtain ⟨ti, hi3, hs3⟩ := i3'
  cases hrb : rightB needs with
  | false =>
    have e : behindP needs i = ([], 1) := by unfold behindP; rw [hrb]; simp
    rw [e]
    have HRB := Aside0.mk hrb
    clear hrb e
    go_enter Try.func19, Try.ntmps19
    go_wp2_with (fail)
    refine (graph_right.calls K A c needs false _ hr hc (by rw [right_f hL hK, HRB.out])).mono ?_
    rintro e w1 ⟨rfl, hd⟩
    have HB := Aside0.mk (hd.below)
    clear hd
    go_wp2_with (fail)
    go_ret2
    exact ⟨_, rfl, Kd.R_nil _ _ _ _ _, HB.out⟩
  | true =>
    have HRB := Aside0.mk hrb
    clear hrb
    by_cases hir : 0 ≤ i ∧ i < needs.length
    · obtain ⟨bp, hbp⟩ : ∃ bp, bp = behindP needs i := ⟨_, rfl⟩
      rw [← hbp]
      have e : bp = (behL needs i, 0) := by rw [hbp]; unfold behindP; rw [if_pos ⟨HRB.out, hir⟩]
      subst e
      clear hbp
      obtain ⟨hi0, hi1⟩ := hir
      have hwi : (Lit.int .i64 i).wf = true := wf64 (by have := hL.1; omega) (by have := hL.1; omega)
      have hn1 := hL.1
      go_enter Try.func19, Try.ntmps19
      go_wp2_with (fail)
      refine (graph_right.calls K A c needs true _ hr hc (by rw [right_f hL hK, HRB.out])).mono ?_
      rintro e w1 ⟨rfl, hd⟩
      have HB1 := Aside0.mk hd.below
      clear hd
      go_wp2_with (fail)
      --B
      have HM0 := Aside0.mk ((IB.Is.made (P := Try.prog) (kt := 3) (et := 4) w1).alloc (.cells #[.int .i64 i] 3))
      have hb1 : w.heap.size ≤ w1.heap.size := HB1.out.size
      have HB2 := Aside0.mk (below_alloc (below_alloc HB1.out (.map #[] 0)) (.cells #[.int .i64 i] 3))
      have HR0 : Aside0 (Kd.R (Kd.int .i64) 3 ((w1.alloc (.map #[] 0)).alloc (.cells #[.int .i64 i] 3)) w.heap.size (fun _ => True) (.slice (some ⟨w1.heap.size + 1, 0, none⟩) 1 1) [i]) := by
        have h2 := World.ownsRow_lit (base := w.heap.size) (e := 3) (size := 1) (w1.alloc (.map #[] 0)) #[.int .i64 i] 1 (by simp; omega) (by unfold maxLen; omega) rfl
        refine ⟨Kd.R_of_own ?_ (fun _ _ => trivial)⟩
        simpa [encs] using h2
      generalize hW2 : (w1.alloc (.map #[] 0)).alloc (.cells #[.int .i64 i] 3) = w2 at *
      generalize hgm : w1.heap.size = gm at *
      go_loopg [7] (2 * needs.length + 2) (fun f v7 wr => ∃ (td : List Int) (S : Int → Bool) (A6 : Option Addr) (c6 : Nat), v7 = .slice A6 td.length c6 ∧ 2 * (needs.length - cB S needs.length) + td.length < f ∧ f ≤ 2 * needs.length + 2 ∧ Aside0 (Inv needs i td S) ∧ Aside0 (Kd.R (Kd.int .i64) 3 wr w.heap.size (fun _ => True) (.slice A6 td.length c6) td) ∧ Aside0 (KB wr gm (cB S needs.length) S) ∧ Aside0 (Below w.heap.size w wr))
      case atStart => exact ⟨[i], fun _ => false, _, _, rfl, by rw [cB_none]; simp, Nat.le_refl _, ⟨Inv.start _ _⟩, HR0, ⟨by rw [cB_none]; exact HM0.out⟩, HB2⟩
      case round =>
        clear HM0 HR0 HB2 HB1 hW2
        obtain ⟨td, S, A6, c6, rfl, hfu, hf2, HI, HR, HM, HB⟩ := hrel
        obtain ⟨wo, rfl⟩ : ∃ wo : World, wo = wr := ⟨_, rfl⟩
        obtain ⟨f, rfl⟩ : ∃ f, gk = f + 1 := ⟨gk - 1, by omega⟩
        have hcb := cB_le S needs.length
        by_cases htd : td.length = 0
        · obtain rfl : td = [] := List.eq_nil_of_length_eq_zero htd
          go_wp2_with (at_delete; refine IB.drop rfl _ _ 52 rfl Try.underlying52 Try.underlying3 rfl HM.out i rfl hwi ?_)
          intro w5 hK5 ht5
          have HB5 := Aside0.mk (HB.out.grown ht5.grown HB.out.size (fun q e => by injection e with e; omega))
          have hg0 := HM.out.lt
          have hg5 : gm < w5.heap.size := by have := ht5.grown.size; omega
          clear HM HB HR ht5
          go_wp2_with (at_range; refine IB.start rfl _ 52 rfl Try.underlying52 Try.underlying3 rfl hK5 ?_)
          intro w6 cnt6 hR6 hg6 hs6
          have HB6 := Aside0.mk (HB5.out.grown hg6 HB5.out.size (fun q e => by cases e))
          have hsz5 := HB5.out.size
          clear hK5 hg6
          generalize hr5 : w5.heap.size = r at *
          have hgr : gm ≠ r := by omega
          go_wp2_with (fail)
          go_loopw [11] (fun v11 wr => ∃ (xs : List Int) (A7 : Option Addr) (c7 cnt : Nat), v11 = .slice A7 xs.length c7 ∧ Aside0 (IB.Round Try.prog 3 4 wr gm r (cB S needs.length) (IB.del S i) xs cnt) ∧ Aside0 (Kd.R (Kd.int .i64) 3 wr w.heap.size (fun _ => True) (.slice A7 xs.length c7) xs) ∧ Aside0 (Below w.heap.size w wr)) (fun _ w' => w'.rangeLeft gm r)
          case atStart => exact ⟨[], none, 0, _, rfl, ⟨hR6⟩, ⟨Kd.R_nil _ _ _ _ _⟩, HB6⟩
          case round =>
            clear hR6 HB6 HB5 hs6
            obtain ⟨xs, A7, c7, cnt, rfl, HRd, HR, HB⟩ := hrel
            obtain ⟨wi, rfl⟩ : ∃ wi : World, wi = wr := ⟨_, rfl⟩
            have hxl : xs.length ≤ needs.length := by
              obtain ⟨D, left, _, h2, h3, _⟩ := HRd.out
              exact nodup_bd h2 (fun x hx => HI.out.rng x (by have := (h3 x hx).2; unfold IB.del at this; rw [Bool.and_eq_true] at this; exact this.2))
            go_wp2_with (at_next; refine IB.next (kt := 3) (et := 4) rfl _ rfl Try.underlying3 Try.underlying4 rfl HRd.out ?done ?more)
            case done =>
              intro hall
              have hsrt : (xs.mergeSort fun x y => decide (x ≤ y)) = behL needs i := by
                obtain ⟨D, left, _, h2, h3, _⟩ := HRd.out
                exact sorted_behind HI.out hL.1 h2 (fun x hx => (h3 x hx).2) hall ⟨hi0, hi1⟩ HRB.out
              by_cases hx0 : xs.length = 0
              · obtain rfl : xs = [] := List.eq_nil_of_length_eq_zero hx0
                have hb0 : behL needs i = [] := by rw [← hsrt]; simp
                have HB0 := Aside0.mk hb0
                clear hall hsrt hb0 hx0
                simp only [List.length_nil] at HR ⊢
                go_wp2_with (fail)
                refine (sort_none_calls _ _ _).mono ?_
                rintro e w8 ⟨rfl, rfl⟩
                go_wp2_with (fail)
                go_ret2
                exact ⟨_, rfl, by rw [HB0.out]; exact HR.out, HB.out⟩
              · have ho := Kd.own_of_R HR.out
                obtain ⟨_, h | ⟨g, cap, cur, hv, hbg, hcur, hle7, hcm, hsz7, htk⟩⟩ := ho
                · exact absurd h.2 hx0
                · injection hv with hv1 hv2 hv3
                  subst hv1 hv3
                  have hH := holds_of_blockI (ss := xs) hcur (by simpa [encs] using htk)
                  have hlt7 : g < wi.heap.size := by
                    rcases Nat.lt_or_ge g wi.heap.size with h | h
                    · exact h
                    · rw [Array.getElem?_eq_none h] at hcur; cases hcur
                  have hlen : (behL needs i).length = xs.length := by rw [← hsrt]; exact List.length_mergeSort _
                  have HS := Aside0.mk hsrt
                  have HLN := Aside0.mk hlen
                  have HCU := Aside0.mk hcur
                  clear hall hsrt hlen hcur htk hx0
                  go_wp2_with (fail)
                  refine (sort_calls g 0 c7 xs _ hH hlt7 (by omega)).mono ?_
                  rintro e w8 ⟨rfl, n8, os8, hw8⟩
                  rw [HS.out] at hw8
                  have hg8 : wi.grownBy w8 (some g) := by rw [hw8]; exact grownBy_sortedI _
                  have own8 : w8.ownsRow w.heap.size 3 1 (.slice (some ⟨g, 0, none⟩) xs.length c7) xs.length ((behL needs i).map (Value.int .i64)) := by
                    rw [hw8]
                    exact ownsRow_sortedI HLN.out hbg HCU.out hle7 hcm hsz7
                  have HB8 := Aside0.mk (HB.out.grown hg8 HB.out.size (fun q e => by injection e with e; omega))
                  have HR8 : Aside0 (Kd.R (Kd.int .i64) 3 w8 w.heap.size (fun _ => True) (.slice (some ⟨g, 0, none⟩) xs.length c7) (behL needs i)) := ⟨Kd.R_of_own (by rw [HLN.out]; exact own8) (fun _ _ => trivial)⟩
                  clear hg8 own8 hw8 hH
                  go_wp2_with (fail)
                  go_ret2
                  exact ⟨_, rfl, HR8.out, HB8.out⟩
            case more =>
              intro x v w7 cnt' hwx hSx hnx hR7 hlt hg7 hs7 hent
              have hne := R_itne HR.out HRd.out
              have HB7 := Aside0.mk (HB.out.grown hg7 HB.out.size (fun q e => by injection e with e; omega))
              have HR7 := Aside0.mk (Kd.R_grown1 HR.out rfl hg7 hne.2)
              have hne7 := Aside0.mk (R_itne HR7.out hR7)
              have HRd7 := Aside0.mk hR7
              have hmeas : cnt' < wi.rangeLeft gm r := by rw [HRd.out.left_eq]; exact hlt
              have hsz7 := HB7.out.size
              clear hSx hnx hwx hR7 hg7 hs7 hne HR HB HRd hlt
              go_wp2_with (at_builtin; refine Kd.R_append (Kd.int .i64) (w0 := w7) w.heap.size rfl (.tmp 71) (.tmp 73) 25 3 (.int .i64 0) 8 rfl Try.underlying25 info3 rfl (by decide) (by omega) (.slice A7 xs.length c7) xs x [.int .i64 x] (fun _ => True) (fun _ => False) rfl rfl rfl (fun _ hk => hk.elim) (fun _ _ => trivial) HR7.out (Below.refl _ _) hsz7 (by omega) ?_)
              intro v1 w8 rS8 hB8 hg8 hat8
              obtain ⟨A8, c8, rfl⟩ := Kd.R_slice rS8
              have HR8 := Aside0.mk rS8
              have HB8 := Aside0.mk (HB7.out.grown hg8 hsz7 (fun q e => (Kd.R_bound HR7.out).1 q e |>.2.1))
              have HRd8 := Aside0.mk (HRd7.out.kept hg8 hne7.out.1 hne7.out.2)
              clear rS8 hB8 hg8 hat8 hent
              go_wp2_with (fail)
              go_roundw
              case rel => exact ⟨xs ++ [x], A8, c8, cnt', rfl, HRd8, HR8, HB8⟩
              case measure => rw [HRd8.out.left_eq]; exact hmeas
        · obtain ⟨m, hm⟩ : ∃ m, td.length = m + 1 := ⟨td.length - 1, by omega⟩
          have hrd := (Kd.R_reads' HR.out).2
          obtain ⟨ad, rfl, hcell⟩ := Kd.at_int hrd.2 (m : Int) (by omega) (by omega)
          have hle := hrd.1
          rw [Int.toNat_natCast] at hcell
          have hcut := cut_to (P := Try.prog) 25 3 .i64 Try.underlying25 hi3 (some ad) td.length c6 (m : Int) (by omega) (by omega) hle
          have HP := Aside0.mk (HI.out.pop hm)
          have hk := HI.out.todo _ (rd_mem (l := td) (j := m) (by omega))
          have hkr : 0 ≤ rd td (m : Int) ∧ rd td (m : Int) < needs.length := by
            rcases hk with h | h
            · rw [h]; exact ⟨hi0, hi1⟩
            · exact HI.out.rng _ h
          have HRT := Aside0.mk (Kd.R_take HR.out (m := m) (by omega))
          clear hrd hk HI HR htd
          generalize rd td (m : Int) = kk at *
          obtain ⟨hk0, hk1⟩ := hkr
          obtain ⟨k, rfl⟩ : ∃ k : Nat, kk = k := ⟨kk.toNat, by omega⟩
          have hkn : k < needs.length := by omega
          obtain ⟨ad1, A1, c1, rfl, x1, hl1, hC1⟩ := at_L1 hr (k : Int) (by omega) (by omega)
          rw [rd_nd] at x1 hl1 hC1
          rw [Int.toNat_natCast] at x1
          replace x1 := pw_cell_below HB.out x1
          rw [Int.toNat_natCast] at hcut
          rw [hm] at hcut ⊢
          have hrl := hL.2 _ (nd_mem hkn)
          go_wp2_with (fail)
          go_loopw [7, 48] (fun v7 i8 wr => ∃ (td : List Int) (S : Int → Bool) (j : Nat) (A6 : Option Addr) (c6 : Nat), j ≤ (nd needs k).length ∧ i8 = .int .i64 j ∧ v7 = .slice A6 td.length c6 ∧ 2 * (needs.length - cB S needs.length) + td.length < f ∧ Aside0 (Mid needs i (k : Int) j td S) ∧ Aside0 (Kd.R (Kd.int .i64) 3 wr w.heap.size (fun _ => True) (.slice A6 td.length c6) td) ∧ Aside0 (KB wr gm (cB S needs.length) S) ∧ Aside0 (Below w.heap.size w wr)) (fun _ i8 _ => (nd needs k).length - (intOf i8).toNat)
          case atStart =>
            have htl : (td.take m).length = m := by rw [List.length_take]; omega
            exact ⟨td.take m, S, 0, some ad, c6, Nat.zero_le _, rfl, by rw [htl], by rw [htl]; omega, HP, ⟨by rw [htl]; exact HRT.out⟩, HM, HB⟩
          case round =>
            clear HP HRT HM HB hcell hcut x1 hle hcb hfu hm
            obtain ⟨td, S, j, A6, c6, hj, rfl, rfl, hfu, HP, HR, HM, HB⟩ := hrel
            obtain ⟨wi, rfl⟩ : ∃ wi : World, wi = wr := ⟨_, rfl⟩
            have hcb := cB_le S needs.length
            by_cases hlj : j < (nd needs k).length
            · obtain ⟨ad2, rfl, hcell⟩ := Kd.at_int (Kd.C_below hC1 HB.out) (j : Int) (by omega) (by omega)
              rw [Int.toNat_natCast] at hcell
              have hx := rightB_true HRB.out _ (nd_mem hkn) _ (rd_mem hlj)
              have HSk : Aside0 (S (rd (nd needs k) (j : Int)) = true → Mid needs i (k : Int) (j + 1) td S) := ⟨fun h => HP.out.skip hlj h⟩
              have HAd : Aside0 (Mid needs i (k : Int) (j + 1) (td ++ [rd (nd needs k) (j : Int)]) (IB.add S (rd (nd needs k) (j : Int)))) := ⟨HP.out.add hlj hx⟩
              clear HP
              generalize rd (nd needs k) (j : Int) = x at *
              obtain ⟨hx0, hx1⟩ := hx
              have hwx : (Lit.int .i64 x).wf = true := wf64 (by omega) (by omega)
              have hlk := IB.run_look (t := 52) Try.underlying52 Try.underlying3 Try.underlying4 (info4' _) HM.out hwx
              cases hS : S x with
              | true =>
                rw [hS] at hlk
                have hS' := Aside0.mk hS
                clear hS
                go_wp2_with (fail)
                go_roundw
                case rel => exact ⟨td, S, j + 1, A6, c6, hlj, by go_num, rfl, hfu, ⟨HSk.out hS'.out⟩, HR, HM, HB⟩
                case measure => simp [intOf]; omega
              | false =>
                rw [hS] at hlk
                have hS' := Aside0.mk hS
                clear hS
                go_wp2_with (at_mapUpdate; refine IB.put_new rfl _ _ _ 52 rfl Try.underlying52 Try.underlying3 Try.underlying4 rfl HM.out (by unfold maxLen; omega) x hS'.out rfl hwx rfl ?_)
                intro w7 hM7 hg7
                have hcadd := cB_add hx0 hS'.out needs.length
                rw [if_pos hx1] at hcadd
                rw [← hcadd] at hM7
                have hcb2 := cB_le (IB.add S x) needs.length
                have HR7 := Aside0.mk (Kd.R_grown1 HR.out rfl hg7 (R_mapneB HR.out HM.out))
                have HB7 := Aside0.mk (HB.out.grown hg7 HB.out.size (fun q e => by injection e with e; omega))
                have HM7 := Aside0.mk hM7
                have hsz7 := HB7.out.size
                have hne7 := Aside0.mk (R_mapneB HR7.out HM7.out)
                clear hM7 hg7 hlk HR HB HM hcell
                go_wp2_with (at_builtin; refine Kd.R_append (Kd.int .i64) (w0 := w7) w.heap.size rfl (.tmp 58) (.tmp 60) 25 3 (.int .i64 0) 8 rfl Try.underlying25 info3 rfl (by decide) (by omega) (.slice A6 td.length c6) td x [.int .i64 x] (fun _ => True) (fun _ => False) rfl rfl rfl (fun _ hk => hk.elim) (fun _ _ => trivial) HR7.out (Below.refl _ _) hsz7 (by omega) ?_)
                intro v1 w8 rS8 hB8 hg8 hat8
                obtain ⟨A8, c8, rfl⟩ := Kd.R_slice rS8
                have HR8 := Aside0.mk rS8
                have HB8 := Aside0.mk (HB7.out.grown hg8 hsz7 (fun q e => (Kd.R_bound HR7.out).1 q e |>.2.1))
                have HM8 := Aside0.mk (HM7.out.kept hg8 hne7.out)
                clear rS8 hB8 hg8 hat8
                go_wp2_with (fail)
                go_roundw
                case rel => exact ⟨td ++ [x], IB.add S x, j + 1, A8, c8, hlj, by go_num, rfl, by rw [List.length_append, List.length_singleton]; omega, HAd, HR8, HM8, HB8⟩
                case measure => simp [intOf]; omega
            · obtain rfl : j = (nd needs k).length := by omega
              have HI : Aside0 (Inv needs i td S) := ⟨Mid.done HP.out⟩
              clear HP
              go_wp2_with (fail)
              go_roundg f
              case measure => omega
              case rel => exact ⟨td, S, A6, c6, rfl, hfu, by omega, HI, HR, HM, HB⟩
    · have e : behindP needs i = ([], 1) := by unfold behindP; rw [if_neg (by rintro ⟨_, h⟩; exact hir h)]
      rw [e]
      clear e
      by_cases h0 : i < 0
      · clear hir
        go_enter Try.func19, Try.ntmps19
        go_wp2_with (fail)
        refine (graph_right.calls K A c needs true _ hr hc (by rw [right_f hL hK, HRB.out])).mono ?_
        rintro e w1 ⟨rfl, hd⟩
        have HB := Aside0.mk (hd.below)
        clear hd
        go_wp2_with (fail)
        go_ret2
        exact ⟨_, rfl, Kd.R_nil _ _ _ _ _, HB.out⟩
      · have h1 : (needs.length : Int) ≤ i := by omega
        clear hir
        go_enter Try.func19, Try.ntmps19
        go_wp2_with (fail)
        refine (graph_right.calls K A c needs true _ hr hc (by rw [right_f hL hK, HRB.out])).mono ?_
        rintro e w1 ⟨rfl, hd⟩
        have HB := Aside0.mk (hd.below)
        clear hd
        go_wp2_with (fail)
        go_ret2
        exact ⟨_, rfl, Kd.R_nil _ _ _ _ _, HB.out⟩
end Go.Proofs.Ytdknnekkbhpjlaa.H
namespace Go.Proofs.Ytdknnekkbhpjlaa.G
open Go.RowKit Go.Proofs.YtdknnekkbhpjlaaW.PrintWords Go.Proofs.YtdknnekkbhpjlaaW.PrintLast Go.Proofs.YtdknnekkbhpjlaaW.PrintMore
open H

noncomputable def graph_Behind.f (l : List (List Int)) (i : Int) : Option (List Int × Int) := if Lens l then some (behindP l i) else none
theorem graph_Behind.ok {l : List (List Int)} {i : Int} (h : Lens l) : graph_Behind.f l i = some (behindP l i) := if_pos h
theorem graph_Behind.calls (A0 : Option Addr) (c0 : Nat) (l0 : List (List Int)) (a1 : Int) (r1 : List Int) (r2 : Int) (w : World) (hr0 : Kd.C (Kd.slice 3 (Kd.int .i64)) w A0 l0.length l0) (hc0 : l0.length ≤ c0) (h : graph_Behind.f l0 a1 = some (r1, r2)) :
    Calls Try.prog 19 #[.slice A0 l0.length c0, .int .i64 a1] w fun e w' => ∃ v0_ : Value, e = .returned (.tuple #[v0_, .int .i64 r2]) ∧ Kd.R (Kd.int .i64) 3 w' w.heap.size (fun _ => True) v0_ r1 ∧ Below w.heap.size w w' := by
  by_cases hk : Lens l0
  · rw [graph_Behind.ok hk] at h
    injection h with h
    have h1 : r1 = (behindP l0 a1).1 := by rw [h]
    have h2 : r2 = (behindP l0 a1).2 := by rw [h]
    subst h1 h2
    exact behind_calls _ _ _ _ w hr0 hc0 hk
  · rw [show graph_Behind.f l0 a1 = none from if_neg hk] at h
    cases h
end Go.Proofs.Ytdknnekkbhpjlaa.G
