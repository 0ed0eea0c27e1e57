/- The law GraphLess, walked: it tells true. Condition: the rows lie in memory; the second and third arguments are bytes. -/
import Derived.Test.YtdknnekkbhpjlaaPRf
import Derived.Test.YtdknnekkbhpjlaaHHdr
import Derived.Test.YtdknnekkbhpjlaaHTwo
import Derived.Test.YtdknnekkbhpjlaaHAwake
set_option linter.unusedVariables false
set_option linter.unusedSimpArgs false
namespace Go.Proofs.Ytdknnekkbhpjlaa.H
open Go.RowKit Go.Proofs.YtdknnekkbhpjlaaW.PrintWords Go.Proofs.YtdknnekkbhpjlaaW.PrintLast Go.Proofs.YtdknnekkbhpjlaaW.PrintMore Go.Proofs.Ytdknnekkbhpjlaa.G

theorem tmod_u8 {a : Int} (h : 0 ≤ a ∧ a ≤ 255) {n : Nat} (hn : 0 < n) : ∃ q : Nat, q < n ∧ Int.tmod (wrap64 a) (n : Int) = q := by
  have hw : wrap64 a = a := by unfold wrap64; omega
  rw [hw]
  have h1 := Int.tmod_nonneg (n : Int) h.1
  have h2 : Int.tmod a (n : Int) < n := Int.tmod_lt_of_pos a (by omega)
  exact ⟨(Int.tmod a (n : Int)).toNat, by omega, by omega⟩
theorem cut_behind {ti : TypeInfo} (hi3 : Try.prog.info? 3 = some ti) (hs3 : ti.size = 1) (A1 : Option Addr) {n o : Nat} (c1 : Nat) (h : o + 1 ≤ n) (hn : n ≤ 1000) (W : World) :
    (Instr.slice 25 (.slice A1 n c1) (some (.int .i64 (wrap64 ((o : Int) + 1)))) none none).run Try.prog W = .ok (.slice (if c1 = o + 1 then A1 else A1.map (fun x => x.add ((o + 1) * 1))) (n - (o + 1)) (c1 - (o + 1))) W := by
  have hwo : wrap64 ((o : Int) + 1) = ((o + 1 : Nat) : Int) := by unfold wrap64; omega
  rw [hwo]
  have := cut_from (P := Try.prog) 25 3 .i64 Try.underlying25 hi3 1 hs3 A1 n c1 ((o + 1 : Nat) : Int) (by omega) (by omega) W
  rw [Int.toNat_natCast] at this
  exact this
set_option maxHeartbeats 800000 in
set_option maxRecDepth 100000 in
theorem less_empty (K : Nat) (A : Option Addr) (c : Nat) {a1 a2 : Int} (w : World) (hr : Kd.C KI w A ([] : List (List Int)).length []) (hc : ([] : List (List Int)).length ≤ c) (hb1 : seedcornref38_Few.f K [] 300 = some true) :
    Calls Try.prog 4 #[.slice A ([] : List (List Int)).length c, .int .u8 a1, .int .u8 a2] w fun e w' => e = .returned (.bool true) ∧ Below w.heap.size w w' := by
  have hf := Aside0.mk (seedcornref38_Few.calls K A c [] 300 true w hr hc hb1)
  obtain ⟨z, hz⟩ : ∃ z : Nat, z = ([] : List (List Int)).length := ⟨_, rfl⟩
  rw [← hz] at hf ⊢
  have hz0 : z = 0 := hz
  clear hz hr hc hb1
  subst hz0
  go_enter Try.func4, Try.ntmps4
  go_wp2_with (fail)
  refine hf.out.mono ?_
  rintro e w1 ⟨rfl, hd⟩
  have hB := Aside0.mk hd.below
  clear hd hf
  go_wp2_with (fail)
  refine (awake_calls w1).mono ?_
  rintro e w2 ⟨rfl, hB2⟩
  go_wp2_with (fail)
  go_ret
  exact ⟨rfl, below_then hB.out hB.out.size hB2⟩
set_option maxHeartbeats 1600000 in
set_option maxRecDepth 100000 in
theorem less_calls (A : Option Addr) (c : Nat) (needs : List (List Int)) (a1 a2 : Int) (w : World) (hr : Kd.C KI w A needs.length needs) (hc : needs.length ≤ c) (hm : Rows0 needs) (h1 : 0 ≤ a1 ∧ a1 ≤ 255) (h2 : 0 ≤ a2 ∧ a2 ≤ 255) :
    Calls Try.prog 4 #[.slice A needs.length c, .int .u8 a1, .int .u8 a2] w fun e w' => e = .returned (.bool true) ∧ Below w.heap.size w w' := by
  obtain ⟨K, hK⟩ : ∃ K : Nat, 2000000 ≤ K := ⟨_, Nat.le_refl _⟩
  obtain ⟨ti, hi3, hs3⟩ := i3'
  obtain ⟨b, hb1, hb2⟩ := few_f hm (k := K) (by omega)
  have H1 := Aside0.mk h1
  have H2 := Aside0.mk h2
  clear h1 h2 hm
  cases b with
  | false =>
    go_enter Try.func4, Try.ntmps4
    go_wp2_with (fail)
    refine (seedcornref38_Few.calls K A c needs 300 false w hr hc hb1).mono ?_
    rintro e w1 ⟨rfl, hd⟩
    have hB := hd.below
    clear hd
    go_wp2_with (fail)
    refine (awake_calls w1).mono ?_
    rintro e w2 ⟨rfl, hB2⟩
    go_wp2_with (fail)
    go_ret
    exact ⟨rfl, below_then hB hB.size hB2⟩
  | true =>
    have HLn := Aside0.mk (hb2 rfl)
    clear hb2
    by_cases hn0 : needs.length = 0
    · obtain rfl : needs = [] := List.eq_nil_of_length_eq_zero hn0
      clear hn0
      exact less_empty K A c w hr hc hb1
    · obtain ⟨a, ha, hat⟩ := tmod_u8 H1.out (show 0 < needs.length by omega)
      obtain ⟨lp, hlp⟩ : ∃ lp, lp = levelsP needs := ⟨_, rfl⟩
      have HLP := Aside0.mk hlp
      obtain ⟨ad, A1, c1, rfl, x1, hl1, hC1⟩ := at_L1 hr (a : Int) (by omega) (by omega)
      rw [rd_nd] at x1 hl1 hC1
      rw [Int.toNat_natCast] at x1
      go_enter Try.func4, Try.ntmps4
      go_wp2_with (fail)
      refine (seedcornref38_Few.calls K (some ad) c needs 300 true w hr hc hb1).mono ?_
      rintro e w1 ⟨rfl, hd⟩
      have HB1 := Aside0.mk hd.below
      clear hd
      go_wp2_with (fail)
      refine (levels_calls (some ad) c needs w1 (Kd.C_below hr HB1.out) hc HLn.out).mono ?_
      rintro e w2 ⟨v, rfl, hS2, hB2⟩
      rw [← hlp] at hS2 ⊢
      clear hlp
      have HB2 := Aside0.mk (below_then HB1.out HB1.out.size hB2)
      obtain ⟨A7, c7, rfl⟩ := Kd.R_slice (Kd.S_R hS2)
      have hrd7 := Kd.S_reads' hS2
      have HC7 := Aside0.mk hrd7.2.2
      have hc7 := hrd7.2.1
      clear hS2 hB2 HB1 hrd7
      by_cases he : lp.2 = 0
      · have x2 := pw_cell_below HB2.out x1
        rw [he]
        by_cases hrow : (nd needs a).length = 0
        · go_wp2_with (fail)
          refine (awake_calls w2).mono ?_
          rintro e w3 ⟨rfl, hB3⟩
          go_wp2_with (fail)
          go_ret
          exact ⟨rfl, below_then HB2.out HB2.out.size hB3⟩
        · obtain ⟨o, ho, hot⟩ := tmod_u8 H2.out (show 0 < (nd needs a).length by omega)
          obtain ⟨hs, HL, HHd⟩ := headers (Kd.C_below hr HB2.out)
          have HLd := Aside0.mk HL
          have HC := Aside0.mk HHd
          have hC2 := Kd.C_below hC1 HB2.out
          have hr' := Aside0.mk hr
          have HBr := Aside0.mk (Below.refl w2.heap.size w2)
          have hn1 := HLn.out.1
          have HR0 : Aside0 (Kd.R KHd 25 (w2.alloc (.cells #[] 25)) w2.heap.size (fun _ => True) (.slice (some ⟨w2.heap.size, 0, none⟩) 0 0) []) := by
            have h2 := World.ownsRow_lit (base := w2.heap.size) (e := 25) (size := 1) w2 #[] 0 (by omega) (by unfold maxLen; omega) rfl
            exact ⟨Kd.R_of_own (enc := encH) h2 (fun _ _ => trivial)⟩
          have HB2' := Aside0.mk (below_alloc HBr.out (.cells #[] 25))
          have hCa := Aside0.mk (Kd.C_alloc HC.out (.cells #[] 25))
          clear HL HHd hr
          go_wp2_with (at_builtin; refine Kd.R_append_rows KHd (w0 := w2) w2.heap.size rfl (.tmp 59) (.tmp 60) 24 25 (.slice none 0 0) 24 rfl Try.underlying24 info25 rfl (by decide) (by decide) _ [] hs (some ad) needs.length c (fun _ => True) (fun _ => False) rfl rfl HR0.out hCa.out (fun _ _ h => h) (fun _ h => h.elim) (fun _ _ => trivial) HB2'.out HB2'.out.size (by simp; omega) ?_)
          intro v5 w5 hR5 hB5 hg5 hat5
          obtain ⟨_, h0 | ⟨g8, c8, cur8, rfl, hbg8, hcur8, hle8, hcm8, hsz8, htk8⟩⟩ := Kd.own_of_R hR5
          · exact absurd (by rw [← h0.2]; exact HLd.out.1.symm) hn0
          have HR5 := Aside0.mk hR5
          have HB5 := Aside0.mk hB5
          have hsl := HLd.out.1
          rw [hsl] at HR5 hle8 ⊢
          have hg8 : g8 < w5.heap.size := Kd.R_lt HR5.out g8 rfl
          have x5 := pw_cell_below HB5.out x2
          have hC5 := Aside0.mk (Kd.C_below hC2 HB5.out)
          have hai : (a : Int) < needs.length := by omega
          have hol : (o : Int) < (nd needs a).length := by omega
          have hnl : (nd needs a).length ≤ 1000 := HLn.out.2 _ (nd_mem ha)
          have hcut1 := cut_to (P := Try.prog) 25 3 .i64 Try.underlying25 hi3 A1 (nd needs a).length c1 (o : Int) (by omega) (by omega) hl1
          have hcut2 := cut_behind hi3 hs3 A1 c1 (show o + 1 ≤ (nd needs a).length from ho) hnl
          simp only [Int.toNat_natCast] at hcut1
          have hCt := Aside0.mk (Kd.C_take hC5.out (m := o) (by omega))
          have hCd := Aside0.mk (Kd.C_drop hC5.out (m := o + 1) (c := c1) (by omega) (by omega))
          have e1 : (nd needs a).length - (o + 1) = ((nd needs a).drop (o + 1)).length := by simp
          have e2 : o = ((nd needs a).take o).length := by rw [List.length_take]; omega
          have HE2 := Aside0.mk e2
          have HE1 := Aside0.mk e1
          obtain ⟨A9, hA9⟩ : ∃ A9, A9 = (if c1 = o + 1 then A1 else A1.map (fun x => x.add ((o + 1) * 1))) := ⟨_, rfl⟩
          rw [← hA9] at hcut2
          have hCd' : Aside0 ((Kd.int .i64).C w5 A9 ((nd needs a).drop (o + 1)).length ((nd needs a).drop (o + 1))) := ⟨by rw [hA9]; exact hCd.out⟩
          clear hR5 hB5 hg5 hat5 hcur8 hsz8 htk8 hcm8 x2 hC1 hC2 HBr HR0 hCa HB2' e1 e2 hA9 hCd hsl
          go_wp2_with (fail)
          refine start_ (n := 20) (S := fun w' => w'.cell? (ad.add a) = some (.slice A1 (nd needs a).length c1)) (ds := [19]) #[false, false, false, false, false, false, false, false, false, false, false, false, false, false, false, false, false, false, false, false] (by kernel_rfl) rfl rfl (show w5.drew.cell? (ad.add a) = _ from x5) (fun hHeld => ?_)
          have HR6 := Aside0.mk (Kd.R_drew HR5.out)
          have HB6 := Aside0.mk (below_drew HB5.out)
          have hCt6 := Aside0.mk (Kd.C_drew hCt.out)
          have hCd6 := Aside0.mk (Kd.C_drew hCd'.out)
          have hg9 : g8 < w5.drew.heap.size := hg8
          have x6 : w5.drew.cell? (ad.add a) = some (.slice A1 (nd needs a).length c1) := x5
          clear HR5 HB5 hCt hCd' hg8 x5
          generalize w5.drew = W at *
          refine pure_ (i := 0) (N := some 62) (v := ?_) (a' := ?_) #[true, false, false, false, false, false, false, false, false, false, false, false, false, false, false, false, false, false, false, false] rfl rfl (by kernel_rfl) (fun _ _ _ h => h) (Or.inl ⟨by rfl, ?_⟩) ?_ ?_
          rotate_left
          · intro w'
            go_simp
            with_reducible rfl
          rotate_left
          · simp only [Act.put, List.setIfInBounds_toArray, List.set_cons_zero, List.set_cons_succ, i64_w, i32_w]
            rfl
          refine pure_ (i := 1) (N := some 63) (v := ?_) (a' := ?_) #[true, true, false, false, false, false, false, false, false, false, false, false, false, false, false, false, false, false, false, false] rfl rfl (by kernel_rfl) (fun _ _ _ h => h) (Or.inl ⟨by rfl, ?_⟩) ?_ ?_
          rotate_left
          · intro w'
            go_simp
            with_reducible rfl
          rotate_left
          · simp only [Act.put, List.setIfInBounds_toArray, List.set_cons_zero, List.set_cons_succ, i64_w, i32_w]
            rfl
          refine pure_ (i := 3) (N := some 65) (v := ?_) (a' := ?_) #[true, true, false, true, false, false, false, false, false, false, false, false, false, false, false, false, false, false, false, false] rfl rfl (by kernel_rfl) (fun _ _ _ h => h) (Or.inl ⟨by rfl, ?_⟩) ?_ ?_
          rotate_left
          · intro w'
            go_simp
            with_reducible rfl
          rotate_left
          · simp only [Act.put, List.setIfInBounds_toArray, List.set_cons_zero, List.set_cons_succ, i64_w, i32_w]
            rfl
          refine pure_ (i := 4) (N := some 66) (v := ?_) (a' := ?_) #[true, true, false, true, true, false, false, false, false, false, false, false, false, false, false, false, false, false, false, false] rfl rfl (by kernel_rfl) (fun _ _ _ h => h) (Or.inl ⟨by rfl, ?_⟩) ?_ ?_
          rotate_left
          · intro w'
            go_simp
            with_reducible rfl
          rotate_left
          · simp only [Act.put, List.setIfInBounds_toArray, List.set_cons_zero, List.set_cons_succ, i64_w, i32_w]
            rfl
          refine pure_ (i := 5) (N := some 67) (v := ?_) (a' := ?_) #[true, true, false, true, true, true, false, false, false, false, false, false, false, false, false, false, false, false, false, false] rfl rfl (by kernel_rfl) (fun _ _ _ h => h) (Or.inl ⟨by rfl, ?_⟩) ?_ ?_
          rotate_left
          · intro w'
            go_simp
            with_reducible rfl
          rotate_left
          · simp only [Act.put, List.setIfInBounds_toArray, List.set_cons_zero, List.set_cons_succ, i64_w, i32_w]
            rfl
          refine take_ (i := 6) (N := some 68) (v := ?_) (a' := ?_) #[true, true, false, true, true, true, true, false, false, false, false, false, false, false, false, false, false, false, false, false] rfl rfl (by kernel_rfl) (fun _ _ _ h => h) (Or.inl ⟨by rfl, ?_⟩) hHeld ?_ ?_
          rotate_left
          · rintro w' s0
            go_simp
            with_reducible rfl
          rotate_left
          · simp only [Act.put, List.setIfInBounds_toArray, List.set_cons_zero, List.set_cons_succ, i64_w, i32_w]
            rfl
          refine pure_ (i := 7) (N := some 69) (v := ?_) (a' := ?_) #[true, true, false, true, true, true, true, true, false, false, false, false, false, false, false, false, false, false, false, false] rfl rfl (by kernel_rfl) (fun _ _ _ h => h) (Or.inl ⟨by rfl, ?_⟩) ?_ ?_
          rotate_left
          · intro w'
            go_simp
            with_reducible rfl
          rotate_left
          · simp only [Act.put, List.setIfInBounds_toArray, List.set_cons_zero, List.set_cons_succ, i64_w, i32_w]
            rfl
          refine pure_ (i := 8) (N := some 70) (v := ?_) (a' := ?_) #[true, true, false, true, true, true, true, true, true, false, false, false, false, false, false, false, false, false, false, false] rfl rfl (by kernel_rfl) (fun _ _ _ h => h) (Or.inl ⟨by rfl, ?_⟩) ?_ ?_
          rotate_left
          · intro w'
            go_simp
            with_reducible rfl
          rotate_left
          · simp only [Act.put, List.setIfInBounds_toArray, List.set_cons_zero, List.set_cons_succ, i64_w, i32_w]
            rfl
          refine pure_ (i := 10) (N := some 72) (v := ?_) (a' := ?_) #[true, true, false, true, true, true, true, true, true, false, true, false, false, false, false, false, false, false, false, false] rfl rfl (by kernel_rfl) (fun _ _ _ h => h) (Or.inl ⟨by rfl, ?_⟩) ?_ ?_
          rotate_left
          · intro w'
            go_simp
            with_reducible rfl
          rotate_left
          · simp only [Act.put, List.setIfInBounds_toArray, List.set_cons_zero, List.set_cons_succ, i64_w, i32_w]
            rfl
          refine pure_ (i := 11) (N := some 73) (v := ?_) (a' := ?_) #[true, true, false, true, true, true, true, true, true, false, true, true, false, false, false, false, false, false, false, false] rfl rfl (by kernel_rfl) (fun _ _ _ h => h) (Or.inl ⟨by rfl, ?_⟩) ?_ ?_
          rotate_left
          · intro w'
            go_simp
            with_reducible rfl
          rotate_left
          · simp only [Act.put, List.setIfInBounds_toArray, List.set_cons_zero, List.set_cons_succ, i64_w, i32_w]
            rfl
          refine pure_ (i := 12) (N := some 74) (v := ?_) (a' := ?_) #[true, true, false, true, true, true, true, true, true, false, true, true, true, false, false, false, false, false, false, false] rfl rfl (by kernel_rfl) (fun _ _ _ h => h) (Or.inl ⟨by rfl, ?_⟩) ?_ ?_
          rotate_left
          · intro w'
            go_simp
            with_reducible rfl
          rotate_left
          · simp only [Act.put, List.setIfInBounds_toArray, List.set_cons_zero, List.set_cons_succ, i64_w, i32_w]
            rfl
          refine take_ (i := 13) (N := some 75) (v := ?_) (a' := ?_) #[true, true, false, true, true, true, true, true, true, false, true, true, true, true, false, false, false, false, false, false] rfl rfl (by kernel_rfl) (fun _ _ _ h => h) (Or.inl ⟨by rfl, ?_⟩) hHeld ?_ ?_
          rotate_left
          · rintro w' s0
            go_simp
            with_reducible rfl
          rotate_left
          · simp only [Act.put, List.setIfInBounds_toArray, List.set_cons_zero, List.set_cons_succ, i64_w, i32_w]
            rfl
          refine pure_ (i := 14) (N := some 76) (v := ?_) (a' := ?_) #[true, true, false, true, true, true, true, true, true, false, true, true, true, true, true, false, false, false, false, false] rfl rfl (by kernel_rfl) (fun _ _ _ h => h) (Or.inl ⟨by rfl, ?_⟩) ?_ ?_
          rotate_left
          · intro w'
            go_simp
            with_reducible rfl
          rotate_left
          · simp only [Act.put, List.setIfInBounds_toArray, List.set_cons_zero, List.set_cons_succ, i64_w, i32_w]
            rfl
          refine pure_ (i := 15) (N := some 77) (v := ?_) (a' := ?_) #[true, true, false, true, true, true, true, true, true, false, true, true, true, true, true, true, false, false, false, false] rfl rfl (by kernel_rfl) (fun _ _ _ h => h) (Or.inl ⟨by rfl, ?_⟩) ?_ ?_
          rotate_left
          · intro w'
            go_simp
            with_reducible rfl
          rotate_left
          · simp only [Act.put, List.setIfInBounds_toArray, List.set_cons_zero, List.set_cons_succ, i64_w, i32_w]
            rfl
          refine pure_ (i := 16) (N := some 78) (v := ?_) (a' := ?_) #[true, true, false, true, true, true, true, true, true, false, true, true, true, true, true, true, true, false, false, false] rfl rfl (by kernel_rfl) (fun _ _ _ h => h) (Or.inl ⟨by rfl, ?_⟩) ?_ ?_
          rotate_left
          · intro w'
            go_simp
            with_reducible rfl
          rotate_left
          · simp only [Act.put, List.setIfInBounds_toArray, List.set_cons_zero, List.set_cons_succ, i64_w, i32_w]
            rfl
          refine one_ (i := 2) (N := some 64) #[true, true, true, true, true, true, true, true, true, false, true, true, true, true, true, true, true, false, false, false] rfl rfl (by kernel_rfl) (by decide) (fun K' hK => ?_)
          refine value_ (v := .slice (some ⟨W.heap.size, 0, none⟩) 0 0) (w1 := W.alloc (.cells #[] 3)) (by rfl) rfl (by go_simp) ?_
          refine hK.out _ _ (pw_cell_below (below_alloc (Below.refl W.heap.size W) _) x6) (fun hHeld => ?_)
          clear hK K'
          refine norm_ (a' := ?_) ?_ ?_
          rotate_left
          · show Act.put _ (some 64) _ = _
            simp only [Act.put, List.setIfInBounds_toArray, List.set_cons_zero, List.set_cons_succ, i64_w, i32_w]
            rfl
          have HI0 : Aside0 ((Kd.int .i64).R 3 (W.alloc (.cells #[] 3)) W.heap.size (fun k => W.heap.size ≤ k) (.slice (some ⟨W.heap.size, 0, none⟩) 0 0) []) := by
            have h2 := World.ownsRow_lit (base := W.heap.size) (e := 3) (size := 1) W #[] 0 (by omega) (by unfold maxLen; omega) rfl
            exact ⟨Kd.R_of_own (enc := Value.int .i64) h2 (fun k hk => by cases hk; exact Nat.le_refl _)⟩
          have HW0 := Aside0.mk (below_alloc (Below.refl W.heap.size W) (.cells #[] 3))
          have hCt7 := Aside0.mk (Kd.C_alloc hCt6.out (.cells #[] 3))
          refine one_ (i := 9) (N := some 71) #[true, true, true, true, true, true, true, true, true, true, true, true, true, true, true, true, true, false, false, false] rfl rfl (by kernel_rfl) (by decide) (fun K' hK => ?_)
          refine Kd.R_append_rows_step (Kd.int .i64) (w0 := W) W.heap.size (by rfl) (.tmp 64) (.tmp 70) 25 3 (.int .i64 0) 8 rfl Try.underlying25 info3 rfl (by decide) (by decide) _ [] ((nd needs a).take o) A1 o c1 (fun k => W.heap.size ≤ k) (fun _ => False) rfl rfl HI0.out (by have := hCt7.out; rw [← HE2.out] at this; exact this) (fun _ _ h => h) (fun _ h => h.elim) (fun _ h => by simp at h; omega) HW0.out HW0.out.size (by simp; omega) (fun v6 w6 hR6 hB6 hg6 hat6 => ?_)
          refine hK.out _ _ (pw_cell_below hB6 x6) (fun hHeld => ?_)
          clear hK K'
          refine norm_ (a' := ?_) ?_ ?_
          rotate_left
          · show Act.put _ (some 71) _ = _
            simp only [Act.put, List.setIfInBounds_toArray, List.set_cons_zero, List.set_cons_succ, i64_w, i32_w]
            rfl
          have HI6 := Aside0.mk hR6
          have HW6 := Aside0.mk hB6
          have hCd7 := Aside0.mk (Kd.C_below hCd6.out hB6)
          clear hR6 hB6 hg6 hat6 HI0 HW0 hCt6 hCt7 hCd6
          refine one_ (i := 17) (N := some 79) #[true, true, true, true, true, true, true, true, true, true, true, true, true, true, true, true, true, true, false, false] rfl rfl (by kernel_rfl) (by decide) (fun K' hK => ?_)
          refine Kd.R_append_rows_step (Kd.int .i64) (w0 := W) W.heap.size (by rfl) (.tmp 71) (.tmp 78) 25 3 (.int .i64 0) 8 rfl Try.underlying25 info3 rfl (by decide) (by decide) v6 ([] ++ (nd needs a).take o) ((nd needs a).drop (o + 1)) A9 ((nd needs a).length - (o + 1)) (c1 - (o + 1)) (fun k => W.heap.size ≤ k) (fun _ => False) rfl rfl HI6.out (by have := hCd7.out; rw [← HE1.out] at this; exact this) (fun _ _ h => h) (fun _ h => h.elim) (fun _ h => Nat.le_trans HW6.out.size h) HW6.out HW6.out.size (by simp; omega) (fun v7 w7 hR7 hB7 hg7 hat7 => ?_)
          refine hK.out _ _ (pw_cell_below hB7 x6) (fun hHeld => ?_)
          clear hK K'
          refine norm_ (a' := ?_) ?_ ?_
          rotate_left
          · show Act.put _ (some 79) _ = _
            simp only [Act.put, List.setIfInBounds_toArray, List.set_cons_zero, List.set_cons_succ, i64_w, i32_w]
            rfl
          obtain ⟨A10, c10, rfl⟩ := Kd.R_slice hR7
          have HI7 := Aside0.mk hR7
          have HW7 := Aside0.mk hB7
          have hlen := Kd.R_reads' hR7
          clear hR7 hB7 hg7 hat7 HI6 HW6 hCd7
          have HR7 := Aside0.mk (Kd.R_below HR6.out HW7.out)
          obtain ⟨hx7, hf7⟩ : w7.cell? ⟨g8, a, none⟩ = some (encH (rdOf (none, 0, 0) hs (a : Int))) ∧ w7.frozen? ⟨g8, a, none⟩ = false := by
            have h := HR7.out
            rw [← HLd.out.1] at h
            have h3 := Kd.R_cell (enc := encH) (none, 0, 0) h (a : Int) (by omega) (by rw [HLd.out.1]; omega)
            rw [Int.toNat_natCast] at h3
            exact h3
          have hal : (a : Int) < needs.length := hai
          refine pure_ (i := 18) (N := some 80) (v := ?_) (a' := ?_) #[true, true, true, true, true, true, true, true, true, true, true, true, true, true, true, true, true, true, true, false] rfl rfl (by kernel_rfl) (fun _ _ _ h => h) (Or.inl ⟨by rfl, ?_⟩) ?_ ?_
          rotate_left
          · intro w'
            go_simp
            with_reducible rfl
          rotate_left
          · simp only [Act.put, List.setIfInBounds_toArray, List.set_cons_zero, List.set_cons_succ, i64_w, i32_w]
            rfl
          refine last_ (i := 19) (N := none) #[true, true, true, true, true, true, true, true, true, true, true, true, true, true, true, true, true, true, true, true] rfl rfl (by kernel_rfl) (by decide) (fun K' hK => ?_)
          refine skip_ (w1 := w7.setCell ⟨g8, a, none⟩ (.slice A10 ([] ++ (nd needs a).take o ++ (nd needs a).drop (o + 1)).length c10)) (by rfl) rfl (by go_simp) ?_
          refine hK.out _ _ ?_
          clear hK K'
          refine done_ (by kernel_rfl) ?_
          obtain ⟨w8, hw8⟩ : ∃ w8, w8 = w7.setCell ⟨g8, a, none⟩ (.slice A10 ([] ++ (nd needs a).take o ++ (nd needs a).drop (o + 1)).length c10) := ⟨_, rfl⟩
          have HB8 : Aside0 (Below w2.heap.size w2 w8) := ⟨by rw [hw8]; exact (below_then HB6.out HB6.out.size HW7.out).setCell (p := ⟨g8, a, none⟩) hbg8 _⟩
          have HC8 : Aside0 (Kd.C KI w8 (some ⟨g8, 0, none⟩) needs.length (lessP needs a o)) := ⟨by
            have h1 := Kd.R_putn (enc := encH) HR7.out (a : Int) (A10, ([] ++ (nd needs a).take o ++ (nd needs a).drop (o + 1)).length, c10)
            rw [Int.toNat_natCast] at h1
            have h2 := Kd.R_far HI7.out (p := ⟨g8, a, none⟩) (fun k hk => by show k ≠ g8; omega) (.slice A10 ([] ++ (nd needs a).take o ++ (nd needs a).drop (o + 1)).length c10)
            rw [← hw8] at h2
            have h3 := Kd.R_reads' h2
            have h4 : Kd.R KHd 25 w8 w2.heap.size (fun _ => True) (.slice (some ⟨g8, 0, none⟩) needs.length c8) (hs.set a (A10, ([] ++ (nd needs a).take o ++ (nd needs a).drop (o + 1)).length, c10)) := by rw [hw8]; exact h1
            have h5 := (Kd.R_reads' h4)
            have hl8 := (HLd.out.below HB8.out).set a (A10, ([] ++ (nd needs a).take o ++ (nd needs a).drop (o + 1)).length, c10) ([] ++ (nd needs a).take o ++ (nd needs a).drop (o + 1)) rfl h3.2.1 h3.2.2
            have h6 := h5.2.2
            rw [← h5.1] at h6
            exact of_headers h6 hl8⟩
          rw [← hw8]
          have HRB := Aside0.mk (lessP_lens (o := o) ha HLn.out)
          have hlq : (lessP needs a o).length = needs.length := lessP_len needs a o
          have HL8 := Aside0.mk hle8
          have HO := Aside0.mk ho
          have HA := Aside0.mk ha
          clear hw8 hx7 hf7 HR7 HI7 HW7 hlen HR6 HB6 x6 hcut1 hcut2 HE1 HE2 hnl hol hai hal hle8 hbg8 hg9 HLd HC hl1 hot hat hrow ho hb1
          go_wp2_with (fail)
          have hcl := levels_calls (some ⟨g8, 0, none⟩) c8 (lessP needs a o) w8 (by rw [hlq]; exact HC8.out) (by rw [hlq]; exact HL8.out) HRB.out
          rw [hlq] at hcl
          refine hcl.mono ?_
          rintro e w9 ⟨v9, rfl, hS9, hB9⟩
          obtain ⟨H, G, f1, f2, f3, f4, f5, f6, f7⟩ := less_facts (o := o) HA.out (HLP.out ▸ he)
          rw [f2] at hS9 ⊢
          rw [← HLP.out] at f1
          obtain ⟨lp1, lp2⟩ := lp
          simp only at he f1 hc7 HC7 ⊢
          subst he f1
          have F3 := Aside0.mk f3
          have F4 := Aside0.mk f4
          have F7 := Aside0.mk f7
          clear f2 f3 f4 f7 HLP hcl HC8 HL8 HRB hlq HO HA ha
          obtain ⟨A9b, c9, rfl⟩ := Kd.R_slice (Kd.S_R hS9)
          have hrd9 := Kd.S_reads' hS9
          have HCm := Aside0.mk hrd9.2.2
          have hcm := hrd9.2.1
          have HB9 := Aside0.mk (below_then HB8.out HB8.out.size hB9)
          have HCl := Aside0.mk (Kd.C_below HC7.out HB9.out)
          have HBw := Aside0.mk (below_then HB2.out HB2.out.size HB9.out)
          have HRn := Aside0.mk (Kd.C_below hr'.out HBw.out)
          clear HC7 hS9 hB9 hrd9 HB8 HB9 HB2 x1 hr' hC5
          obtain ⟨l, hl⟩ : ∃ l, l = lvTo H needs.length := ⟨_, rfl⟩
          obtain ⟨m, hm⟩ : ∃ m, m = lvTo G needs.length := ⟨_, rfl⟩
          have HL := Aside0.mk hl
          have HM := Aside0.mk hm
          rw [← hl] at f5 f6 hc7 HCl ⊢
          rw [← hm] at f5 hcm HCm ⊢
          clear hl hm
          go_wp2_with (fail)
          have hmk := print_make (P := Try.prog) 25 3 .i64 8 Try.underlying25 info3 (by decide) needs.length (by omega)
          refine start_ (n := 8) (S := fun w' => True) (ds := []) #[false, false, false, false, false, false, false, false] (by kernel_rfl) rfl rfl trivial (fun hHeld => ?_)
          have HT1 := Aside0.mk (Two.made w9.drew needs.length hn1)
          have HBd := Aside0.mk (below_drew HBw.out)
          have HCl1 := Aside0.mk (Kd.C_drew HCl.out)
          have HCm1 := Aside0.mk (Kd.C_drew HCm.out)
          have HRn1 := Aside0.mk (Kd.C_drew HRn.out)
          clear HBw HCl HCm HRn
          generalize hW : w9.drew = W9 at HT1 HBd HCl1 HCm1 HRn1 hHeld ⊢
          clear hW
          refine pure_ (i := 0) (N := some 95) (v := ?_) (a' := ?_) #[true, false, false, false, false, false, false, false] rfl rfl (by kernel_rfl) (fun _ _ _ h => h) (Or.inl ⟨by rfl, ?_⟩) ?_ ?_
          rotate_left
          · intro w'
            go_simp
            with_reducible rfl
          rotate_left
          · simp only [Act.put, List.setIfInBounds_toArray, List.set_cons_zero, List.set_cons_succ, i64_w, i32_w]
            rfl
          refine pure_ (i := 1) (N := some 96) (v := ?_) (a' := ?_) #[true, true, false, false, false, false, false, false] rfl rfl (by kernel_rfl) (fun _ _ _ h => h) (Or.inl ⟨by rfl, ?_⟩) ?_ ?_
          rotate_left
          · intro w'
            go_simp
            with_reducible rfl
          rotate_left
          · simp only [Act.put, List.setIfInBounds_toArray, List.set_cons_zero, List.set_cons_succ, i64_w, i32_w]
            rfl
          refine pure_ (i := 3) (N := some 98) (v := ?_) (a' := ?_) #[true, true, false, true, false, false, false, false] rfl rfl (by kernel_rfl) (fun _ _ _ h => h) (Or.inl ⟨by rfl, ?_⟩) ?_ ?_
          rotate_left
          · intro w'
            go_simp
            with_reducible rfl
          rotate_left
          · simp only [Act.put, List.setIfInBounds_toArray, List.set_cons_zero, List.set_cons_succ, i64_w, i32_w]
            rfl
          refine pure_ (i := 4) (N := some 99) (v := ?_) (a' := ?_) #[true, true, false, true, true, false, false, false] rfl rfl (by kernel_rfl) (fun _ _ _ h => h) (Or.inl ⟨by rfl, ?_⟩) ?_ ?_
          rotate_left
          · intro w'
            go_simp
            with_reducible rfl
          rotate_left
          · simp only [Act.put, List.setIfInBounds_toArray, List.set_cons_zero, List.set_cons_succ, i64_w, i32_w]
            rfl
          refine join_ (σ := Nat × Nat) 1 #[true, true, true, true, true, true, true, false] (fun s => [(97, .slice (some ⟨s.1, 0, none⟩) needs.length needs.length), (100, .slice (some ⟨s.2, 0, none⟩) needs.length needs.length), (14, .slice (some ⟨s.1, 0, none⟩) needs.length needs.length)]) (fun s w' => Two W9 needs.length s.1 s.2 (List.replicate needs.length 0) (List.replicate needs.length 0) w') ?cont (fun hcont => ?orders)
          case orders =>
            refine two_ (i := 2) (j := 5) (Ni := some 97) (Nj := some 100) #[true, true, true, true, true, false, false, false] #[true, true, false, true, true, true, false, false] rfl rfl rfl rfl (by kernel_rfl) (by decide) (by decide) (fun K' hK => ?_) (fun K' hK => ?_)
            · refine value_ (v := .slice (some ⟨W9.heap.size, 0, none⟩) needs.length needs.length) (w1 := W9.alloc (zeroObj needs.length)) (by rfl) rfl (by go_simp) ?_
              refine hK.out _ _ trivial (fun hHeld => ?_)
              clear hK K'
              refine norm_ (a' := ?_) ?_ ?_
              rotate_left
              · show Act.put _ (some 97) _ = _
                simp only [Act.put, List.setIfInBounds_toArray, List.set_cons_zero, List.set_cons_succ, i64_w, i32_w]
                rfl
              refine pure_ (i := 6) (N := some 14) (v := ?_) (a' := ?_) #[true, true, true, true, true, false, true, false] rfl rfl (by kernel_rfl) (fun _ _ _ h => h) (Or.inl ⟨by rfl, ?_⟩) ?_ ?_
              rotate_left
              · intro w'
                go_simp
                with_reducible rfl
              rotate_left
              · simp only [Act.put, List.setIfInBounds_toArray, List.set_cons_zero, List.set_cons_succ, i64_w, i32_w]
                rfl
              refine one_ (i := 5) (N := some 100) #[true, true, true, true, true, true, true, false] rfl rfl (by kernel_rfl) (by decide) (fun K' hK => ?_)
              refine value_ (v := .slice (some ⟨W9.heap.size + 1, 0, none⟩) needs.length needs.length) (w1 := (W9.alloc (zeroObj needs.length)).alloc (zeroObj needs.length)) (by rfl) rfl (by go_simp) ?_
              refine hK.out _ _ trivial (fun hHeld => ?_)
              clear hK K'
              refine norm_ ?_ (hcont (W9.heap.size, W9.heap.size + 1) _ HT1.out)
              simp only [putAll, Act.put, List.setIfInBounds_toArray, List.set_cons_zero, List.set_cons_succ]
            · refine value_ (v := .slice (some ⟨W9.heap.size, 0, none⟩) needs.length needs.length) (w1 := W9.alloc (zeroObj needs.length)) (by rfl) rfl (by go_simp) ?_
              refine hK.out _ _ trivial (fun hHeld => ?_)
              clear hK K'
              refine norm_ (a' := ?_) ?_ ?_
              rotate_left
              · show Act.put _ (some 100) _ = _
                simp only [Act.put, List.setIfInBounds_toArray, List.set_cons_zero, List.set_cons_succ, i64_w, i32_w]
                rfl
              refine one_ (i := 2) (N := some 97) #[true, true, true, true, true, true, false, false] rfl rfl (by kernel_rfl) (by decide) (fun K' hK => ?_)
              refine value_ (v := .slice (some ⟨W9.heap.size + 1, 0, none⟩) needs.length needs.length) (w1 := (W9.alloc (zeroObj needs.length)).alloc (zeroObj needs.length)) (by rfl) rfl (by go_simp) ?_
              refine hK.out _ _ trivial (fun hHeld => ?_)
              clear hK K'
              refine norm_ (a' := ?_) ?_ ?_
              rotate_left
              · show Act.put _ (some 97) _ = _
                simp only [Act.put, List.setIfInBounds_toArray, List.set_cons_zero, List.set_cons_succ, i64_w, i32_w]
                rfl
              refine pure_ (i := 6) (N := some 14) (v := ?_) (a' := ?_) #[true, true, true, true, true, true, true, false] rfl rfl (by kernel_rfl) (fun _ _ _ h => h) (Or.inl ⟨by rfl, ?_⟩) ?_ ?_
              rotate_left
              · intro w'
                go_simp
                with_reducible rfl
              rotate_left
              · simp only [Act.put, List.setIfInBounds_toArray, List.set_cons_zero, List.set_cons_succ, i64_w, i32_w]
                rfl
              refine norm_ ?_ (hcont (W9.heap.size + 1, W9.heap.size) _ HT1.out.swap)
              simp only [putAll, Act.put, List.setIfInBounds_toArray, List.set_cons_zero, List.set_cons_succ]
          rintro ⟨g1, g2⟩ w10 HT
          have HT0 := Aside0.mk HT
          clear HT HT1 hmk
          refine norm_ (a' := ?_) ?_ ?_
          rotate_left
          · simp only [putAll, Act.put, List.setIfInBounds_toArray, List.set_cons_zero, List.set_cons_succ]
            rfl
          refine pure_ (i := 7) (N := some 15) (v := ?_) (a' := ?_) #[true, true, true, true, true, true, true, true] rfl rfl (by kernel_rfl) (fun _ _ _ h => h) (Or.inl ⟨by rfl, ?_⟩) ?_ ?_
          rotate_left
          · intro w'
            go_simp
            with_reducible rfl
          rotate_left
          · simp only [Act.put, List.setIfInBounds_toArray, List.set_cons_zero, List.set_cons_succ, i64_w, i32_w]
            rfl
          refine done_ (by kernel_rfl) ?_
          go_wp2_with (fail)
          go_loopw [16] (fun v16 wr => ∃ (t : Nat) (old : List Int), t ≤ l.length ∧ v16 = .int .i64 t ∧ Aside0 (Fill H needs.length t 0 old) ∧ Aside0 (Two W9 needs.length g1 g2 old (List.replicate needs.length 0) wr)) (fun v16 _ => l.length - (intOf v16).toNat)
          case atStart => exact ⟨0, _, Nat.zero_le _, rfl, ⟨fill_start _ _ _ HT0.out.len⟩, ⟨HT0.out⟩⟩
          case round =>
            clear HT0
            obtain ⟨t, old, ht, rfl, HF, HT⟩ := hrel
            obtain ⟨wo, rfl⟩ : ∃ wo : World, wo = wr := ⟨_, rfl⟩
            by_cases hlt : t < l.length
            · obtain ⟨adl, A0, c0, rfl, xl, hle0, hC0⟩ := at_L1 (HCl1.out) (t : Int) (by omega) (by omega)
              rw [rd_nd] at xl hle0 hC0
              have hrt : nd l t = rowsOf H needs.length t := by rw [HL.out]; exact F3.out t
              rw [hrt] at xl hle0 hC0
              obtain ⟨row, hrow⟩ : ∃ row, row = rowsOf H needs.length t := ⟨_, rfl⟩
              rw [← hrow] at xl hle0 hC0
              rw [Int.toNat_natCast] at xl
              have HROW := Aside0.mk hrow
              have hrl : row.length ≤ 1001 := by rw [hrow]; have := rowsOf_le H needs.length t; omega
              have HC0 := Aside0.mk hC0
              have HX := Aside0.mk xl
              clear hrt hrow hC0 xl
              go_wp2_with (fail)
              go_loopw [17] (fun v17 wr => ∃ (j : Nat) (old : List Int), j ≤ row.length ∧ v17 = .int .i64 j ∧ Aside0 (Fill H needs.length t j old) ∧ Aside0 (Two W9 needs.length g1 g2 old (List.replicate needs.length 0) wr)) (fun v17 _ => row.length - (intOf v17).toNat)
              case atStart => exact ⟨0, old, Nat.zero_le _, rfl, HF, HT⟩
              case round =>
                clear HF HT
                obtain ⟨j, old1, hj, rfl, HF, HT⟩ := hrel
                obtain ⟨wi, rfl⟩ : ∃ wi : World, wi = wr := ⟨_, rfl⟩
                have xi := pw_cell_below HT.out.below HX.out
                by_cases hlj : j < row.length
                · have hx := row_rd (M := H) (n := needs.length) (t := t) (q := j) (by rw [← HROW.out]; exact hlj)
                  have HS := Aside0.mk (fill_step HF.out (j := j) (by rw [← HROW.out]; exact hlj))
                  rw [← HROW.out] at hx HS
                  obtain ⟨ad2, rfl, hcell⟩ := Kd.at_int (Kd.C_below HC0.out HT.out.below) (j : Int) (by omega) (by omega)
                  rw [Int.toNat_natCast] at hcell
                  obtain ⟨hx0, hx1, _⟩ := hx
                  obtain ⟨x, hxx⟩ : ∃ x : Nat, rd row (j : Int) = x := ⟨(rd row (j : Int)).toNat, by omega⟩
                  rw [hxx] at hcell hx0 hx1 HS
                  rw [Int.toNat_natCast] at HS
                  clear hxx
                  obtain ⟨zc, zf⟩ := HT.out.cell (i := x) (by omega)
                  generalize rd old1 (x : Int) = zz at zc
                  go_wp2_with (fail)
                  have HT2 := Aside0.mk (HT.out.put x (t : Int))
                  clear zc zf hcell xi HT HF
                  go_roundw
                  case rel => exact ⟨j + 1, _, hlj, by go_num, HS, HT2⟩
                  case measure => simp [intOf]; omega
                · obtain rfl : j = row.length := by omega
                  go_wp2_with (fail)
                  go_roundw
                  case rel =>
                    have h := HF.out
                    rw [HROW.out] at h
                    exact ⟨t + 1, old1, hlt, by go_num, ⟨fill_next h⟩, HT⟩
                  case measure => simp [intOf]; omega
            · obtain rfl : t = l.length := by omega
              have HF1 := Aside0.mk (show Fill H needs.length (lvTo H needs.length).length 0 old from by rw [← HL.out]; exact HF.out)
              have HT0 := Aside0.mk HT.out.swap
              clear HF HT HCl1 HL F3
              go_wp2_with (fail)
              go_loopw [18] (fun v16 wr => ∃ (t : Nat) (now : List Int), t ≤ m.length ∧ v16 = .int .i64 t ∧ Aside0 (Fill G needs.length t 0 now) ∧ Aside0 (Two W9 needs.length g2 g1 now old wr)) (fun v16 _ => m.length - (intOf v16).toNat)
              case atStart => exact ⟨0, _, Nat.zero_le _, rfl, ⟨fill_start _ _ _ HT0.out.len⟩, ⟨HT0.out⟩⟩
              case round =>
                clear HT0
                obtain ⟨t, now, ht, rfl, HF, HT⟩ := hrel
                obtain ⟨wo, rfl⟩ : ∃ wo : World, wo = wr := ⟨_, rfl⟩
                by_cases hlt : t < m.length
                · obtain ⟨adl, A0, c0, rfl, xl, hle0, hC0⟩ := at_L1 (HCm1.out) (t : Int) (by omega) (by omega)
                  rw [rd_nd] at xl hle0 hC0
                  have hrt : nd m t = rowsOf G needs.length t := by rw [HM.out]; exact F4.out t
                  rw [hrt] at xl hle0 hC0
                  obtain ⟨row, hrow⟩ : ∃ row, row = rowsOf G needs.length t := ⟨_, rfl⟩
                  rw [← hrow] at xl hle0 hC0
                  rw [Int.toNat_natCast] at xl
                  have HROW := Aside0.mk hrow
                  have hrl : row.length ≤ 1001 := by rw [hrow]; have := rowsOf_le G needs.length t; omega
                  have HC0 := Aside0.mk hC0
                  have HX := Aside0.mk xl
                  clear hrt hrow hC0 xl
                  go_wp2_with (fail)
                  go_loopw [19] (fun v17 wr => ∃ (j : Nat) (now : List Int), j ≤ row.length ∧ v17 = .int .i64 j ∧ Aside0 (Fill G needs.length t j now) ∧ Aside0 (Two W9 needs.length g2 g1 now old wr)) (fun v17 _ => row.length - (intOf v17).toNat)
                  case atStart => exact ⟨0, now, Nat.zero_le _, rfl, HF, HT⟩
                  case round =>
                    clear HF HT
                    obtain ⟨j, now1, hj, rfl, HF, HT⟩ := hrel
                    obtain ⟨wi, rfl⟩ : ∃ wi : World, wi = wr := ⟨_, rfl⟩
                    have xi := pw_cell_below HT.out.below HX.out
                    by_cases hlj : j < row.length
                    · have hx := row_rd (M := G) (n := needs.length) (t := t) (q := j) (by rw [← HROW.out]; exact hlj)
                      have HS := Aside0.mk (fill_step HF.out (j := j) (by rw [← HROW.out]; exact hlj))
                      rw [← HROW.out] at hx HS
                      obtain ⟨ad2, rfl, hcell⟩ := Kd.at_int (Kd.C_below HC0.out HT.out.below) (j : Int) (by omega) (by omega)
                      rw [Int.toNat_natCast] at hcell
                      obtain ⟨hx0, hx1, _⟩ := hx
                      obtain ⟨x, hxx⟩ : ∃ x : Nat, rd row (j : Int) = x := ⟨(rd row (j : Int)).toNat, by omega⟩
                      rw [hxx] at hcell hx0 hx1 HS
                      rw [Int.toNat_natCast] at HS
                      clear hxx
                      obtain ⟨zc, zf⟩ := HT.out.cell (i := x) (by omega)
                      generalize rd now1 (x : Int) = zz at zc
                      go_wp2_with (fail)
                      have HT2 := Aside0.mk (HT.out.put x (t : Int))
                      clear zc zf hcell xi HT HF
                      go_roundw
                      case rel => exact ⟨j + 1, _, hlj, by go_num, HS, HT2⟩
                      case measure => simp [intOf]; omega
                    · obtain rfl : j = row.length := by omega
                      go_wp2_with (fail)
                      go_roundw
                      case rel =>
                        have h := HF.out
                        rw [HROW.out] at h
                        exact ⟨t + 1, now1, hlt, by go_num, ⟨fill_next h⟩, HT⟩
                      case measure => simp [intOf]; omega
                · obtain rfl : t = m.length := by omega
                  have HF2 := Aside0.mk (show Fill G needs.length (lvTo G needs.length).length 0 now from by rw [← HM.out]; exact HF.out)
                  have HT0 := Aside0.mk HT.out
                  clear HF HT HCm1 HM F4
                  go_wp2_with (fail)
                  go_loopw [20] (fun v20 wr => ∃ i : Nat, i ≤ needs.length ∧ v20 = .int .i64 i ∧ Aside0 (Two W9 needs.length g2 g1 now old wr)) (fun v20 _ => needs.length - (intOf v20).toNat)
                  case atStart => exact ⟨0, Nat.zero_le _, rfl, HT0⟩
                  case round =>
                    clear HT0
                    obtain ⟨i, hi, rfl, HT⟩ := hrel
                    obtain ⟨wo, rfl⟩ : ∃ wo : World, wo = wr := ⟨_, rfl⟩
                    by_cases hlt : i < needs.length
                    · obtain ⟨x1, _⟩ := HT.out.cell hlt
                      obtain ⟨x2, _⟩ := HT.out.swap.cell hlt
                      have hle := F7.out i hlt
                      have e1 := fill_end HF1.out hlt
                      have e2 := fill_end HF2.out hlt
                      rw [e1] at x2
                      rw [e2] at x1
                      obtain ⟨y1, hy1⟩ : ∃ y, y = hH H (i : Int) := ⟨_, rfl⟩
                      obtain ⟨y2, hy2⟩ : ∃ y, y = hH G (i : Int) := ⟨_, rfl⟩
                      rw [← hy1] at hle x2
                      rw [← hy2] at hle x1
                      have hi0 : (0 : Int) ≤ (i : Int) := by omega
                      have hi1 : (i : Int) < (needs.length : Int) := by omega
                      have hgt : decide ((y1 : Int) < (y2 : Int)) = false := by simp; omega
                      have hgt2 : decide (y1 < y2) = false := by simp; omega
                      clear e1 e2 hy1 hy2
                      go_wp2_with (fail)
                      go_quiet (fail)
                      go_wp2_with (fail)
                      have HT2 := Aside0.mk (HT.out.drew nq)
                      clear x1 x2 HT
                      go_roundw
                      case rel => exact ⟨i + 1, hlt, by go_num, HT2⟩
                      case measure => simp [intOf]; omega
                    · obtain rfl : i = needs.length := by omega
                      go_wp2_with (fail)
                      refine (awake_calls _).mono ?_
                      rintro e w12 ⟨rfl, hB12⟩
                      have HE := Aside0.mk (below_then (below_then HBd.out HBd.out.size HT.out.below) (below_then HBd.out HBd.out.size HT.out.below).size hB12)
                      clear hB12 HT
                      go_wp2_with (fail)
                      go_ret
                      exact ⟨rfl, HE.out⟩
      · obtain ⟨le, hle⟩ : ∃ le, le = lp.2 := ⟨_, rfl⟩
        rw [← hle] at he ⊢
        clear hle
        go_wp2_with (fail)
        refine (awake_calls w2).mono ?_
        rintro e w3 ⟨rfl, hB3⟩
        go_wp2_with (fail)
        go_ret
        exact ⟨rfl, below_then HB2.out HB2.out.size hB3⟩
end Go.Proofs.Ytdknnekkbhpjlaa.H
