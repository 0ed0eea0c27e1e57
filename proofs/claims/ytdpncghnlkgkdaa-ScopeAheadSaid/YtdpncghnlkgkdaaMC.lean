/- scope.Find, walked: what a name is. Condition: the function's own names are at most 1000 parameters and 1000 locals.
   The literals of scope.named and scope.counted, walked: each use is looked at, one behind the other. Conditions: at most 1000 names a function; for counted, each call's function is there.
   scope.named, scope.counted, scope.Check, walked: are names right, and numbers? Conditions: at most 1000 of anything, and at least one function.
   scope.counted, scope.Check, walked: are numbers right, where names are? Conditions: at most 1000 of anything, and at least one function. -/
import Derived.Test.YtdpncghnlkgkdaaMA
import Derived.Test.YtdpncghnlkgkdaaHEx
import Derived.OneCell
set_option linter.unusedVariables false
set_option linter.unusedSimpArgs false
namespace Go.Proofs.Ytdpncghnlkgkdaa.H
open Go.RowKit Go.Proofs.YtdpncghnlkgkdaaW.PrintWords Go.Proofs.YtdpncghnlkgkdaaW.PrintLast Go.Proofs.YtdpncghnlkgkdaaW.PrintMore Go.Proofs.Ytdpncghnlkgkdaa.G

theorem findP_own {vs : List ByteArray} {ar : List S68} {fs : List S40} {f : Int} {s : ByteArray} (h : 0 ≤ f ∧ f < fs.length) (h0 : 0 ≤ placeP (ownP (rd_T40 fs f)) s) : findP vs ar fs f s = (1, placeP (ownP (rd_T40 fs f)) s) := by
  unfold findP
  simp only [if_pos h, if_pos h0]
def findG (vs : List ByteArray) (ar : List S68) (fs : List S40) (s : ByteArray) : Int × Int :=
  if 0 ≤ placeP vs s then (2, placeP vs s)
  else if 0 ≤ placeP (ar.map (·.f0)) s then (3, placeP (ar.map (·.f0)) s)
  else if 0 ≤ placeP (fs.map (·.f0)) s then (4, placeP (fs.map (·.f0)) s)
  else (0, -1)
theorem findP_off {vs : List ByteArray} {ar : List S68} {fs : List S40} {f : Int} {s : ByteArray} (h : ¬(0 ≤ f ∧ f < fs.length)) : findP vs ar fs f s = findG vs ar fs s := by
  unfold findP findG
  simp only [if_neg h]
  rw [if_neg (by omega)]
theorem findP_not {vs : List ByteArray} {ar : List S68} {fs : List S40} {f : Int} {s : ByteArray} (h : 0 ≤ f ∧ f < fs.length) (h0 : ¬ 0 ≤ placeP (ownP (rd_T40 fs f)) s) : findP vs ar fs f s = findG vs ar fs s := by
  unfold findP findG
  simp only [if_pos h]
  rw [if_neg h0]
set_option maxHeartbeats 4000000 in
set_option maxRecDepth 100000 in
theorem find_calls (A0 : Option Addr) (c0 : Nat) (vs : List ByteArray) (A1 : Option Addr) (c1 : Nat) (ar : List S68) (A2 : Option Addr) (c2 : Nat) (fs : List S40) (f : Int) (s : ByteArray) (w : World) (hr0 : Kd.C Kd.string w A0 vs.length vs) (hr1 : Kd.C k68 w A1 ar.length ar) (hr2 : Kd.C k40 w A2 fs.length fs)
    (hl : 0 ≤ f ∧ f < fs.length → (rd_T40 fs f).f1.length ≤ 1000 ∧ (rd_T40 fs f).f2.length ≤ 1000) :
    Calls Try.prog 16 #[.agg #[.slice A0 vs.length c0, .slice A1 ar.length c1, .slice A2 fs.length c2], .int .i64 f, .string s] w fun e w' => e = .returned (.tuple #[.int .i64 (findP vs ar fs f s).1, .int .i64 (findP vs ar fs f s).2]) ∧ Below w.heap.size w w' := by
  have hmf : ∀ (fn : Fn) (first cap : Array Value) (w : World), (Instr.makeFunc fn first cap).run Try.prog w = .ok (.func fn first cap) w := fun _ _ _ _ => rfl
  have HR0 := Aside0.mk hr0
  have HR1 := Aside0.mk hr1
  have HR2 := Aside0.mk hr2
  have hmx := Kd.C_max hr2
  have HB0 := Aside0.mk (below_alloc (below_alloc (Below.refl w.heap.size w) (.cells #[.slice A0 vs.length c0, .slice A1 ar.length c1, .slice A2 fs.length c2] 26)) (.cells #[.string s] 9))
  have hb3 : ((w.alloc (.cells #[.slice A0 vs.length c0, .slice A1 ar.length c1, .slice A2 fs.length c2] 26)).alloc (.cells #[.string s] 9)).heap[w.heap.size]? = some (.cells #[.slice A0 vs.length c0, .slice A1 ar.length c1, .slice A2 fs.length c2] 26 (0, 0)) := blk_below (blk_new w _) (below_alloc (Below.refl _ _) _)
  have hb5 : ((w.alloc (.cells #[.slice A0 vs.length c0, .slice A1 ar.length c1, .slice A2 fs.length c2] 26)).alloc (.cells #[.string s] 9)).heap[w.heap.size + 1]? = some (.cells #[.string s] 9 (0, 0)) := by
    have h := blk_new (w.alloc (.cells #[.slice A0 vs.length c0, .slice A1 ar.length c1, .slice A2 fs.length c2] 26)) (.cells #[.string s] 9)
    rw [show (w.alloc (.cells #[.slice A0 vs.length c0, .slice A1 ar.length c1, .slice A2 fs.length c2] 26)).heap.size = w.heap.size + 1 by simp] at h
    exact h
  have HB3 := Aside0.mk hb3
  have HB5 := Aside0.mk hb5
  clear hr0 hr1 hr2 hb3 hb5
  obtain ⟨fp, hfp⟩ : ∃ fp, fp = findP vs ar fs f s := ⟨_, rfl⟩
  rw [← hfp]
  have HFP := Aside0.mk hfp
  clear hfp
  by_cases hin : 0 ≤ f ∧ f < fs.length
  · have HIN := Aside0.mk hin
    obtain ⟨hf0, hf1⟩ := hin
    obtain ⟨hl1, hl2⟩ := hl HIN.out
    obtain ⟨ad, B1, d1, B2, d2, B4, d4, rfl, y0, y1, y2, y3, y4, m1, hC1, m2, hC2, m4, hC4⟩ := at_T40 HR2.out f hf0 hf1
    have HC1 := Aside0.mk hC1
    have HC2 := Aside0.mk hC2
    have HO : Aside0 (0 ≤ placeP ((rd_T40 fs f).f1 ++ (rd_T40 fs f).f2) s → fp = (1, placeP ((rd_T40 fs f).f1 ++ (rd_T40 fs f).f2) s)) := ⟨fun h => by rw [HFP.out]; exact findP_own HIN.out h⟩
    have HN : Aside0 (¬ 0 ≤ placeP ((rd_T40 fs f).f1 ++ (rd_T40 fs f).f2) s → fp = findG vs ar fs s) := ⟨fun h => by rw [HFP.out]; exact findP_not HIN.out h⟩
    clear hC1 hC2 hC4 hl
    generalize rd_T40 fs f = x at *
    go_enter Try.func16, Try.ntmps16
    go_wp2_with (fail)
    obtain ⟨W, hW⟩ : ∃ W, W = ((w.alloc (.cells #[.slice A0 vs.length c0, .slice A1 ar.length c1, .slice (some ad) fs.length c2] 26)).alloc (.cells #[.string s] 9)) := ⟨_, rfl⟩
    rw [← hW] at HB0 HB3 HB5 ⊢
    clear hW
    have q2 : W.cell? ⟨w.heap.size, 2, none⟩ = some (.slice (some ad) fs.length c2) := (blk_cell HB3.out 2).trans rfl
    have q5 : W.cell? ⟨w.heap.size + 1, 0, none⟩ = some (.string s) := (blk_cell HB5.out 0).trans rfl
    have x0 := pw_cell_below HB0.out y0
    have x1 := pw_cell_below HB0.out y1
    have x2 := pw_cell_below HB0.out y2
    have x3 := pw_cell_below HB0.out y3
    have x4 := pw_cell_below HB0.out y4
    clear y0 y1 y2 y3 y4
    refine start_ (n := 9) (S := fun w' => w'.cell? ⟨w.heap.size, 2, none⟩ = some (.slice (some ad) fs.length c2) ∧ w'.cell? ⟨w.heap.size + 1, 0, none⟩ = some (.string s) ∧ w'.cell? (ad.add (f.toNat * 5)) = some (.string x.f0) ∧ w'.cell? ⟨(ad.add (f.toNat * 5)).block, (ad.add (f.toNat * 5)).off + 1, none⟩ = some (.slice B1 x.f1.length d1) ∧ w'.cell? ⟨(ad.add (f.toNat * 5)).block, (ad.add (f.toNat * 5)).off + 2, none⟩ = some (.slice B2 x.f2.length d2) ∧ w'.cell? ⟨(ad.add (f.toNat * 5)).block, (ad.add (f.toNat * 5)).off + 3, none⟩ = some (.bool x.f3) ∧ w'.cell? ⟨(ad.add (f.toNat * 5)).block, (ad.add (f.toNat * 5)).off + 4, none⟩ = some (.slice B4 x.f4.length d4)) (ds := [8]) #[false, false, false, false, false, false, false, false, false] (by kernel_rfl) rfl rfl (show _ from ⟨q2, q5, x0, x1, x2, x3, x4⟩) (fun hHeld => ?_)
    have HBd := Aside0.mk (below_drew HB0.out)
    have HB3d := Aside0.mk (blk_below HB3.out (below_drew (Below.refl _ _)))
    have HB5d := Aside0.mk (blk_below HB5.out (below_drew (Below.refl _ _)))
    have HF := Aside0.mk hHeld
    clear q2 q5 x0 x1 x2 x3 x4 HB0 HB3 HB5
    generalize W.drew = W1 at *
    refine pure_ (i := 0) (N := some 21) (v := ?_) (a' := ?_) #[true, false, false, false, false, false, false, false, false] rfl rfl (by kernel_rfl) (fun _ _ _ h => h) (Or.inl ⟨by rfl, ?_⟩) ?_ ?_
    rotate_left
    · intro w'
      go_simp
      with_reducible rfl
    rotate_left
    · simp only [Act.put, List.setIfInBounds_toArray, List.set_cons_zero, List.set_cons_succ, i64_w, i32_w]
      rfl
    refine take_ (i := 1) (N := some 22) (v := ?_) (a' := ?_) #[true, true, false, false, false, false, false, false, false] rfl rfl (by kernel_rfl) (fun _ _ _ h => h) (Or.inl ⟨by rfl, ?_⟩) hHeld ?_ ?_
    rotate_left
    · rintro w' ⟨s0, s1, s2, s3, s4, s5, s6⟩
      go_simp
      with_reducible rfl
    rotate_left
    · simp only [Act.put, List.setIfInBounds_toArray, List.set_cons_zero, List.set_cons_succ, i64_w, i32_w]
      rfl
    refine pure_ (i := 2) (N := some 23) (v := ?_) (a' := ?_) #[true, true, true, false, false, false, false, false, false] rfl rfl (by kernel_rfl) (fun _ _ _ h => h) (Or.inl ⟨by rfl, ?_⟩) ?_ ?_
    rotate_left
    · intro w'
      go_simp
      with_reducible rfl
    rotate_left
    · simp only [Act.put, List.setIfInBounds_toArray, List.set_cons_zero, List.set_cons_succ, i64_w, i32_w]
      rfl
    refine pure_ (i := 3) (N := some 24) (v := ?_) (a' := ?_) #[true, true, true, true, false, false, false, false, false] rfl rfl (by kernel_rfl) (fun _ _ _ h => h) (Or.inl ⟨by rfl, ?_⟩) ?_ ?_
    rotate_left
    · intro w'
      go_simp
      with_reducible rfl
    rotate_left
    · simp only [Act.put, List.setIfInBounds_toArray, List.set_cons_zero, List.set_cons_succ, i64_w, i32_w]
      rfl
    refine take_ (i := 4) (N := some 25) (v := ?_) (a' := ?_) #[true, true, true, true, true, false, false, false, false] rfl rfl (by kernel_rfl) (fun _ _ _ h => h) (Or.inl ⟨by rfl, ?_⟩) hHeld ?_ ?_
    rotate_left
    · rintro w' ⟨s0, s1, s2, s3, s4, s5, s6⟩
      go_simp
      with_reducible rfl
    rotate_left
    · simp only [Act.put, List.setIfInBounds_toArray, List.set_cons_zero, List.set_cons_succ, i64_w, i32_w]
      rfl
    refine take_ (i := 6) (N := some 27) (v := ?_) (a' := ?_) #[true, true, true, true, true, false, true, false, false] rfl rfl (by kernel_rfl) (fun _ _ _ h => h) (Or.inl ⟨by rfl, ?_⟩) hHeld ?_ ?_
    rotate_left
    · rintro w' ⟨s0, s1, s2, s3, s4, s5, s6⟩
      go_simp
      with_reducible rfl
    rotate_left
    · simp only [Act.put, List.setIfInBounds_toArray, List.set_cons_zero, List.set_cons_succ, i64_w, i32_w]
      rfl
    refine one_ (i := 5) (N := some 26) #[true, true, true, true, true, true, true, false, false] rfl rfl (by kernel_rfl) (by decide) (fun K' hK => ?_)
    refine goes_ Try.func34 (by kernel_rfl) rfl #[.agg #[.string x.f0, .slice B1 x.f1.length d1, .slice B2 x.f2.length d2, .bool x.f3, .slice B4 x.f4.length d4]] (by rfl) rfl rfl (by simp only [List.map_toArray, List.map_cons, List.map_nil]; rfl) ?_
    refine (own_calls x.f0 B1 d1 x.f1 B2 d2 x.f2 x.f3 _ W1 (Kd.C_below HC1.out HBd.out) m1 (Kd.C_below HC2.out HBd.out) m2 hl1 hl2 ⟨_, _, _, rfl⟩).mono ?_
    rintro e w2 ⟨v2, rfl, hR2, hB2⟩
    obtain ⟨s0, s1, s2, s3, s4, s5, s6⟩ := HF.out
    refine ⟨_, rfl, hK.out _ _ ⟨pw_cell_below hB2 s0, pw_cell_below hB2 s1, pw_cell_below hB2 s2, pw_cell_below hB2 s3, pw_cell_below hB2 s4, pw_cell_below hB2 s5, pw_cell_below hB2 s6⟩ (fun hHeld => ?_)⟩
    clear hK K' s0 s1 s2 s3 s4 s5 s6
    obtain ⟨A9, c9, rfl⟩ := Kd.R_slice hR2
    have hC9 := Aside0.mk (Kd.R_reads' hR2).2.2
    have HB2 := Aside0.mk (below_then HBd.out HBd.out.size hB2)
    have HB32 := Aside0.mk (blk_below HB3d.out hB2)
    have HB52 := Aside0.mk (blk_below HB5d.out hB2)
    clear hR2 hB2 HBd HB3d HB5d HF
    refine norm_ (a' := ?_) ?_ ?_
    rotate_left
    · show Act.put _ (some 26) _ = _
      simp only [Act.put, List.setIfInBounds_toArray, List.set_cons_zero, List.set_cons_succ, i64_w, i32_w]
      rfl
    refine one_ (i := 7) (N := some 28) #[true, true, true, true, true, true, true, true, false] rfl rfl (by kernel_rfl) (by decide) (fun K' hK => ?_)
    refine goes_ Try.func33 (by kernel_rfl) rfl #[.slice A9 (x.f1 ++ x.f2).length c9, .string s] (by rfl) rfl rfl (by simp only [List.map_toArray, List.map_cons, List.map_nil]; rfl) ?_
    refine (index_calls A9 c9 (x.f1 ++ x.f2) s w2 hC9.out).mono ?_
    rintro e w3 ⟨rfl, rfl⟩
    refine ⟨_, rfl, hK.out _ _ hHeld (fun hHeld => ?_)⟩
    clear hK K'
    refine norm_ (a' := ?_) ?_ ?_
    rotate_left
    · show Act.put _ (some 28) _ = _
      simp only [Act.put, List.setIfInBounds_toArray, List.set_cons_zero, List.set_cons_succ, i64_w, i32_w]
      rfl
    refine pure_ (i := 8) (N := some 8) (v := ?_) (a' := ?_) #[true, true, true, true, true, true, true, true, true] rfl rfl (by kernel_rfl) (fun _ _ _ h => h) (Or.inl ⟨by rfl, ?_⟩) ?_ ?_
    rotate_left
    · intro w'
      go_simp
      with_reducible rfl
    rotate_left
    · simp only [Act.put, List.setIfInBounds_toArray, List.set_cons_zero, List.set_cons_succ, i64_w, i32_w]
      rfl
    refine done_ (by kernel_rfl) ?_
    obtain ⟨po, hpo⟩ : ∃ po, po = placeP (x.f1 ++ x.f2) s := ⟨_, rfl⟩
    rw [← hpo] at HO HN ⊢
    clear hpo
    by_cases g : 0 ≤ po
    · obtain rfl := HO.out g
      clear HO HN
      go_wp2_with (fail)
      go_ret2
      exact ⟨rfl, HB2.out⟩
    · have HGG := Aside0.mk (HN.out (by omega))
      clear HO HN
      obtain ⟨pv, hpv⟩ : ∃ pv, pv = placeP vs s := ⟨_, rfl⟩
      obtain ⟨pa, hpa⟩ : ∃ pa, pa = placeP (ar.map (·.f0)) s := ⟨_, rfl⟩
      obtain ⟨pf, hpf⟩ : ∃ pf, pf = placeP (fs.map (·.f0)) s := ⟨_, rfl⟩
      have HG : Aside0 (fp = if 0 ≤ pv then (2, pv) else if 0 ≤ pa then (3, pa) else if 0 ≤ pf then (4, pf) else (0, -1)) := ⟨by rw [HGG.out, hpv, hpa, hpf]; rfl⟩
      have HPV := Aside0.mk hpv
      have HPA := Aside0.mk hpa
      have HPF := Aside0.mk hpf
      clear hpv hpa hpf
      have z0 := (blk_cell HB32.out 0).trans rfl
      have z1 := (blk_cell HB32.out 1).trans rfl
      have z2 := (blk_cell HB32.out 2).trans rfl
      have z5 := (blk_cell HB52.out 0).trans rfl
      go_wp2_with (fail)
      refine (index_calls A0 c0 vs s _ (Kd.C_below HR0.out HB2.out)).mono ?_
      rintro e w7 ⟨rfl, rfl⟩
      rw [← HPV.out]
      by_cases g0 : 0 ≤ pv
      · obtain rfl : fp = (2, pv) := by rw [HG.out, if_pos g0]
        go_wp2_with (fail)
        go_ret2
        exact ⟨rfl, HB2.out⟩
      · have HG2 : Aside0 (fp = if 0 ≤ pa then (3, pa) else if 0 ≤ pf then (4, pf) else (0, -1)) := ⟨by rw [HG.out, if_neg g0]⟩
        go_wp2_with (fail)
        refine (ixarr_calls A1 c1 ar s (w.heap.size + 1) _ (Kd.C_below HR1.out HB2.out) HB52.out).mono ?_
        rintro e w8 ⟨rfl, hB8⟩
        rw [← HPA.out]
        have HB8 := Aside0.mk (below_then HB2.out HB2.out.size hB8)
        have hb38 := Aside0.mk (blk_below HB32.out hB8)
        have hb58 := Aside0.mk (blk_below HB52.out hB8)
        clear z0 z1 z2 z5 hB8
        have z2 := (blk_cell hb38.out 2).trans rfl
        have z5 := (blk_cell hb58.out 0).trans rfl
        by_cases g1 : 0 ≤ pa
        · obtain rfl : fp = (3, pa) := by rw [HG2.out, if_pos g1]
          go_wp2_with (fail)
          go_ret2
          exact ⟨rfl, HB8.out⟩
        · have HG3 : Aside0 (fp = if 0 ≤ pf then (4, pf) else (0, -1)) := ⟨by rw [HG2.out, if_neg g1]⟩
          go_wp2_with (fail)
          refine (ixfun_calls (some ad) c2 fs s (w.heap.size + 1) _ (Kd.C_below HR2.out HB8.out) hb58.out).mono ?_
          rintro e w9 ⟨rfl, hB9⟩
          rw [← HPF.out]
          have HB9 := Aside0.mk (below_then HB8.out HB8.out.size hB9)
          clear hB9 z2 z5
          by_cases g2 : 0 ≤ pf
          · obtain rfl : fp = (4, pf) := by rw [HG3.out, if_pos g2]
            go_wp2_with (fail)
            go_ret2
            exact ⟨rfl, HB9.out⟩
          · obtain rfl : fp = (0, -1) := by rw [HG3.out, if_neg g2]
            go_wp2_with (fail)
            go_ret2
            exact ⟨rfl, HB9.out⟩
  · have HGG : Aside0 (fp = findG vs ar fs s) := ⟨by rw [HFP.out]; exact findP_off hin⟩
    have hof : decide (0 ≤ f) = false ∨ (decide (0 ≤ f) = true ∧ decide (f < (fs.length : Int)) = false) := by
      by_cases h : 0 ≤ f
      · exact .inr ⟨by simpa using h, by simp; omega⟩
      · exact .inl (by simpa using h)
    clear hl
    have HIN := Aside0.mk hin
    clear hin
    rcases hof with ho | ⟨ho, ho2⟩
    all_goals
      go_enter Try.func16, Try.ntmps16
      obtain ⟨pv, hpv⟩ : ∃ pv, pv = placeP vs s := ⟨_, rfl⟩
      obtain ⟨pa, hpa⟩ : ∃ pa, pa = placeP (ar.map (·.f0)) s := ⟨_, rfl⟩
      obtain ⟨pf, hpf⟩ : ∃ pf, pf = placeP (fs.map (·.f0)) s := ⟨_, rfl⟩
      have HG : Aside0 (fp = if 0 ≤ pv then (2, pv) else if 0 ≤ pa then (3, pa) else if 0 ≤ pf then (4, pf) else (0, -1)) := ⟨by rw [HGG.out, hpv, hpa, hpf]; rfl⟩
      have HPV := Aside0.mk hpv
      have HPA := Aside0.mk hpa
      have HPF := Aside0.mk hpf
      clear hpv hpa hpf
      have z0 := (blk_cell HB3.out 0).trans rfl
      have z1 := (blk_cell HB3.out 1).trans rfl
      have z2 := (blk_cell HB3.out 2).trans rfl
      have z5 := (blk_cell HB5.out 0).trans rfl
      go_wp2_with (fail)
      refine (index_calls A0 c0 vs s _ (Kd.C_below HR0.out HB0.out)).mono ?_
      rintro e w7 ⟨rfl, rfl⟩
      rw [← HPV.out]
      by_cases g0 : 0 ≤ pv
      · obtain rfl : fp = (2, pv) := by rw [HG.out, if_pos g0]
        go_wp2_with (fail)
        go_ret2
        exact ⟨rfl, HB0.out⟩
      · have HG2 : Aside0 (fp = if 0 ≤ pa then (3, pa) else if 0 ≤ pf then (4, pf) else (0, -1)) := ⟨by rw [HG.out, if_neg g0]⟩
        go_wp2_with (fail)
        refine (ixarr_calls A1 c1 ar s (w.heap.size + 1) _ (Kd.C_below HR1.out HB0.out) HB5.out).mono ?_
        rintro e w8 ⟨rfl, hB8⟩
        rw [← HPA.out]
        have HB8 := Aside0.mk (below_then HB0.out HB0.out.size hB8)
        have hb38 := Aside0.mk (blk_below HB3.out hB8)
        have hb58 := Aside0.mk (blk_below HB5.out hB8)
        clear z0 z1 z2 z5 hB8
        have z2 := (blk_cell hb38.out 2).trans rfl
        have z5 := (blk_cell hb58.out 0).trans rfl
        by_cases g1 : 0 ≤ pa
        · obtain rfl : fp = (3, pa) := by rw [HG2.out, if_pos g1]
          go_wp2_with (fail)
          go_ret2
          exact ⟨rfl, HB8.out⟩
        · have HG3 : Aside0 (fp = if 0 ≤ pf then (4, pf) else (0, -1)) := ⟨by rw [HG2.out, if_neg g1]⟩
          go_wp2_with (fail)
          refine (ixfun_calls A2 c2 fs s (w.heap.size + 1) _ (Kd.C_below HR2.out HB8.out) hb58.out).mono ?_
          rintro e w9 ⟨rfl, hB9⟩
          rw [← HPF.out]
          have HB9 := Aside0.mk (below_then HB8.out HB8.out.size hB9)
          clear hB9 z2 z5
          by_cases g2 : 0 ≤ pf
          · obtain rfl : fp = (4, pf) := by rw [HG3.out, if_pos g2]
            go_wp2_with (fail)
            go_ret2
            exact ⟨rfl, HB9.out⟩
          · obtain rfl : fp = (0, -1) := by rw [HG3.out, if_neg g2]
            go_wp2_with (fail)
            go_ret2
            exact ⟨rfl, HB9.out⟩
end Go.Proofs.Ytdpncghnlkgkdaa.H
set_option linter.unusedVariables false
set_option linter.unusedSimpArgs false
namespace Go.Proofs.Ytdpncghnlkgkdaa.H
open Go.RowKit Go.Proofs.YtdpncghnlkgkdaaW.PrintWords Go.Proofs.YtdpncghnlkgkdaaW.PrintLast Go.Proofs.YtdpncghnlkgkdaaW.PrintMore Go.Proofs.Ytdpncghnlkgkdaa.G

/-- What a literal has captured: the program, the function's number, a flag. -/
def Caps (bp bi bo : Nat) (cs : Array Value) (i : Int) (b : Bool) (W : World) : Prop :=
  W.heap[bp]? = some (.cells cs 26 (0, 0)) ∧ W.heap[bi]? = some (.cells #[.int .i64 i] 3 (0, 0)) ∧ W.heap[bo]? = some (.cells #[.bool b] 4 (0, 0))
theorem Caps.below {bp bi bo : Nat} {cs : Array Value} {i : Int} {b : Bool} {W W' : World} (h : Caps bp bi bo cs i b W) (hb : Below W.heap.size W W') : Caps bp bi bo cs i b W' := ⟨blk_below h.1 hb, blk_below h.2.1 hb, blk_below h.2.2 hb⟩
theorem Keep.set {W : World} {bo : Nat} {cs : Array Value} {t : TypeId} {fr : Nat × Nat} (h : W.heap[bo]? = some (.cells cs t fr)) (h1 : t ≠ 37) (h2 : t ≠ 33) (a : Addr) (ha : a.block = bo) (v : Value) : Keep W (W.setCell a v) := fun b cs' t' fr' ht hb => by
  have hne : b ≠ a.block := by
    rw [ha]
    rintro rfl
    rw [h] at hb
    injection hb with hb
    injection hb with _ hb _
    subst hb
    rcases ht with h | h
    · exact h1 h
    · exact h2 h
  rw [Below.heap_setCell W a v b hne]
  exact hb
theorem ne_type {W : World} {b c : Nat} {cs cs' : Array Value} {t t' : TypeId} {fr fr' : Nat × Nat} (h : W.heap[b]? = some (.cells cs t fr)) (h' : W.heap[c]? = some (.cells cs' t' fr')) (hne : t ≠ t') : b ≠ c := by
  rintro rfl
  rw [h] at h'
  injection h' with h'
  injection h' with _ h' _
  exact hne h'
theorem Caps.set {bp bi bo : Nat} {cs : Array Value} {i : Int} {b : Bool} {W : World} (h : Caps bp bi bo cs i b W) (b' : Bool) : Caps bp bi bo cs i b' (W.setCell ⟨bo, 0, none⟩ (.bool b')) := by
  refine ⟨?_, ?_, ?_⟩
  · rw [Below.heap_setCell W _ _ _ (show bp ≠ bo from ne_type h.1 h.2.2 (by decide))]; exact h.1
  · rw [Below.heap_setCell W _ _ _ (show bi ≠ bo from ne_type h.2.1 h.2.2 (by decide))]; exact h.2.1
  · exact one_setCell h.2.2
/-- What Find wants of a program. -/
structure Prg (A0 : Option Addr) (c0 : Nat) (vs : List ByteArray) (A1 : Option Addr) (c1 : Nat) (ar : List S68) (A2 : Option Addr) (c2 : Nat) (fs : List S40) (w : World) : Prop where
  r0 : Kd.C Kd.string w A0 vs.length vs
  r1 : Kd.C k68 w A1 ar.length ar
  r2 : Kd.C k40 w A2 fs.length fs
  h0 : vs.length ≤ c0
  h1 : ar.length ≤ c1
  h2 : fs.length ≤ c2
theorem Prg.below {A0 : Option Addr} {c0 : Nat} {vs : List ByteArray} {A1 : Option Addr} {c1 : Nat} {ar : List S68} {A2 : Option Addr} {c2 : Nat} {fs : List S40} {w w' : World} (h : Prg A0 c0 vs A1 c1 ar A2 c2 fs w) (hb : Below w.heap.size w w') : Prg A0 c0 vs A1 c1 ar A2 c2 fs w' := ⟨Kd.C_below h.r0 hb, Kd.C_below h.r1 hb, Kd.C_below h.r2 hb, h.h0, h.h1, h.h2⟩
/-- Not too great for what is made of it. -/
def Lens (vs : List ByteArray) (ar : List S68) (fs : List S40) : Prop := vs.length ≤ 1000 ∧ ar.length ≤ 1000 ∧ fs.length ≤ 1000 ∧ ∀ f ∈ fs, f.f1.length ≤ 1000 ∧ f.f2.length ≤ 1000
theorem rd40_mem {fs : List S40} {f : Int} (h : 0 ≤ f ∧ f < fs.length) : rd_T40 fs f ∈ fs := by
  unfold rd_T40
  rw [List.getD_eq_getElem?_getD, List.getElem?_eq_getElem (by omega)]
  exact List.getElem_mem (by omega)
theorem Lens.own {vs : List ByteArray} {ar : List S68} {fs : List S40} (h : Lens vs ar fs) (f : Int) (hf : 0 ≤ f ∧ f < fs.length) : (rd_T40 fs f).f1.length ≤ 1000 ∧ (rd_T40 fs f).f2.length ≤ 1000 := h.2.2.2 _ (rd40_mem hf)

set_option maxHeartbeats 4000000 in
set_option maxRecDepth 100000 in
theorem named_lit {A0 : Option Addr} {c0 : Nat} {vs : List ByteArray} {A1 : Option Addr} {c1 : Nat} {ar : List S68} {A2 : Option Addr} {c2 : Nat} {fs : List S40} {w0 : World} (P : Prg A0 c0 vs A1 c1 ar A2 c2 fs w0) (hL : Lens vs ar fs) {bp bi bo : Nat} (hbo : w0.heap.size ≤ bo) (i : Int) (b : Bool) (u : U) (W : World) (hB : Below w0.heap.size w0 W) (hS : Caps bp bi bo #[.slice A0 vs.length c0, .slice A1 ar.length c1, .slice A2 fs.length c2] i b W) :
    Calls Try.prog 54 #[.agg #[.string u.name, .int .i64 u.kind, .int .i64 u.args], .pointer (some ⟨bp, 0, none⟩), .pointer (some ⟨bi, 0, none⟩), .pointer (some ⟨bo, 0, none⟩)] W fun e W' => e = .returned (.tuple #[]) ∧ Below w0.heap.size w0 W' ∧ Caps bp bi bo #[.slice A0 vs.length c0, .slice A1 ar.length c1, .slice A2 fs.length c2] i (b && rightU vs ar fs i u) W' ∧ Keep W W' := by
  have HL := Aside0.mk (hL.own i)
  have HP := Aside0.mk P
  have HB := Aside0.mk hB
  have HS := Aside0.mk hS
  have hp0 : W.cell? ⟨bp, 0, none⟩ = some (.slice A0 vs.length c0) := (blk_cell hS.1 0).trans rfl
  have hp1 : W.cell? ⟨bp, 1, none⟩ = some (.slice A1 ar.length c1) := (blk_cell hS.1 1).trans rfl
  have hp2 : W.cell? ⟨bp, 2, none⟩ = some (.slice A2 fs.length c2) := (blk_cell hS.1 2).trans rfl
  have hi : W.cell? ⟨bi, 0, none⟩ = some (.int .i64 i) := (blk_cell hS.2.1 0).trans rfl
  have g1 := blk_lt hS.1
  have g2 := blk_lt hS.2.1
  have hnew := Aside0.mk (blk_new W (.cells #[.string u.name, .int .i64 u.kind, .int .i64 u.args] 74))
  have HB1 := Aside0.mk (below_alloc (Below.refl W.heap.size W) (.cells #[.string u.name, .int .i64 u.kind, .int .i64 u.args] 74))
  obtain ⟨fp, hfp⟩ : ∃ fp, fp = findP vs ar fs i u.name := ⟨_, rfl⟩
  obtain ⟨ru, hru⟩ : ∃ ru, ru = rightU vs ar fs i u := ⟨_, rfl⟩
  obtain ⟨res, hres⟩ : ∃ res, res = (b && ru) := ⟨_, rfl⟩
  rw [← hru, ← hres]
  have HRES := Aside0.mk hres
  clear hres
  have HRU : Aside0 (ru = if u.kind = 2 then fp.1 == 1 || fp.1 == 2 else if u.kind = 3 then fp.1 == 3 else if u.kind = 4 then fp.1 == 4 && decide (fp.2 < i) else true) := ⟨by rw [hru, hfp]; rfl⟩
  have HFP := Aside0.mk hfp
  clear P hL hB hS hfp hru
  obtain ⟨un, uk, ua⟩ := u
  simp only at HRU HFP hnew HB1 ⊢
  go_enter Try.func54, Try.ntmps54
  go_wp2_with (fail)
  refine (find_calls A0 c0 vs A1 c1 ar A2 c2 fs i un _ (Kd.C_below HP.out.r0 (below_then HB.out HB.out.size HB1.out)) (Kd.C_below HP.out.r1 (below_then HB.out HB.out.size HB1.out)) (Kd.C_below HP.out.r2 (below_then HB.out HB.out.size HB1.out)) HL.out).mono ?_
  rintro e W5 ⟨rfl, hB5⟩
  rw [← HFP.out]
  obtain ⟨kk, at_⟩ := fp
  simp only at HRU ⊢
  have HB5 := Aside0.mk (below_then HB1.out HB1.out.size hB5)
  have HS5 := Aside0.mk (HS.out.below HB5.out)
  have hn5 := blk_below hnew.out hB5
  have HBw := Aside0.mk (below_then HB.out HB.out.size HB5.out)
  have HK5 := Aside0.mk (Keep.below HB5.out)
  have z1 : W5.cell? ⟨W.heap.size, 1, none⟩ = some (.int .i64 uk) := (blk_cell hn5 1).trans rfl
  have zi : W5.cell? ⟨bi, 0, none⟩ = some (.int .i64 i) := (blk_cell HS5.out.2.1 0).trans rfl
  have zo : W5.cell? ⟨bo, 0, none⟩ = some (.bool b) := (blk_cell HS5.out.2.2 0).trans rfl
  have fo : W5.frozen? ⟨bo, 0, none⟩ = false := free_of_one HS5.out.2.2
  clear hn5 hB5 hp0 hp1 hp2 hi HB HS hnew HB1 HFP HP HL
  by_cases hk2 : uk = 2
  · subst hk2
    simp only [if_true] at HRU
    cases b with
    | false =>
      obtain rfl : res = false := by rw [HRES.out]; rfl
      go_wp2_with (fail)
      first | go_end0 | refine bodyPost_ret (results_none rfl _ _ _) rfl ?_
      exact ⟨rfl, HBw.out.setCell (p := ⟨bo, 0, none⟩) hbo _, HS5.out.set false, HK5.out.trans (Keep.set HS5.out.2.2 (by decide) (by decide) _ rfl _)⟩
    | true =>
      by_cases h1 : kk = 1
      · subst h1
        obtain rfl : ru = true := by rw [HRU.out]; rfl
        obtain rfl : res = true := by rw [HRES.out]; rfl
        go_wp2_with (fail)
        first | go_end0 | refine bodyPost_ret (results_none rfl _ _ _) rfl ?_
        exact ⟨rfl, HBw.out.setCell (p := ⟨bo, 0, none⟩) hbo _, HS5.out.set true, HK5.out.trans (Keep.set HS5.out.2.2 (by decide) (by decide) _ rfl _)⟩
      · have t1 : (kk == 1) = false := by simpa using h1
        by_cases h2 : kk = 2
        · subst h2
          obtain rfl : ru = true := by rw [HRU.out]; rfl
          obtain rfl : res = true := by rw [HRES.out]; rfl
          clear t1 h1
          go_wp2_with (fail)
          first | go_end0 | refine bodyPost_ret (results_none rfl _ _ _) rfl ?_
          exact ⟨rfl, HBw.out.setCell (p := ⟨bo, 0, none⟩) hbo _, HS5.out.set true, HK5.out.trans (Keep.set HS5.out.2.2 (by decide) (by decide) _ rfl _)⟩
        · have t2 : (kk == 2) = false := by simpa using h2
          obtain rfl : ru = false := by rw [HRU.out, t1, t2]; rfl
          obtain rfl : res = false := by rw [HRES.out]; rfl
          clear h1 h2
          go_wp2_with (fail)
          first | go_end0 | refine bodyPost_ret (results_none rfl _ _ _) rfl ?_
          exact ⟨rfl, HBw.out.setCell (p := ⟨bo, 0, none⟩) hbo _, HS5.out.set false, HK5.out.trans (Keep.set HS5.out.2.2 (by decide) (by decide) _ rfl _)⟩
  · rw [if_neg hk2] at HRU
    have s2 : (uk == 2) = false := by simpa using hk2
    by_cases hk3 : uk = 3
    · subst hk3
      simp only [if_true] at HRU
      clear s2 hk2
      cases b with
      | false =>
        obtain rfl : res = false := by rw [HRES.out]; rfl
        go_wp2_with (fail)
        first | go_end0 | refine bodyPost_ret (results_none rfl _ _ _) rfl ?_
        exact ⟨rfl, HBw.out.setCell (p := ⟨bo, 0, none⟩) hbo _, HS5.out.set false, HK5.out.trans (Keep.set HS5.out.2.2 (by decide) (by decide) _ rfl _)⟩
      | true =>
        by_cases h1 : kk = 3
        · subst h1
          obtain rfl : ru = true := by rw [HRU.out]; rfl
          obtain rfl : res = true := by rw [HRES.out]; rfl
          go_wp2_with (fail)
          first | go_end0 | refine bodyPost_ret (results_none rfl _ _ _) rfl ?_
          exact ⟨rfl, HBw.out.setCell (p := ⟨bo, 0, none⟩) hbo _, HS5.out.set true, HK5.out.trans (Keep.set HS5.out.2.2 (by decide) (by decide) _ rfl _)⟩
        · have t1 : (kk == 3) = false := by simpa using h1
          obtain rfl : ru = false := by rw [HRU.out, t1]
          obtain rfl : res = false := by rw [HRES.out]; rfl
          clear h1
          go_wp2_with (fail)
          first | go_end0 | refine bodyPost_ret (results_none rfl _ _ _) rfl ?_
          exact ⟨rfl, HBw.out.setCell (p := ⟨bo, 0, none⟩) hbo _, HS5.out.set false, HK5.out.trans (Keep.set HS5.out.2.2 (by decide) (by decide) _ rfl _)⟩
    · rw [if_neg hk3] at HRU
      have s3 : (uk == 3) = false := by simpa using hk3
      by_cases hk4 : uk = 4
      · subst hk4
        simp only [if_true] at HRU
        clear s2 hk2 s3 hk3
        cases b with
        | false =>
          obtain rfl : res = false := by rw [HRES.out]; rfl
          go_wp2_with (fail)
          first | go_end0 | refine bodyPost_ret (results_none rfl _ _ _) rfl ?_
          exact ⟨rfl, HBw.out.setCell (p := ⟨bo, 0, none⟩) hbo _, HS5.out.set false, HK5.out.trans (Keep.set HS5.out.2.2 (by decide) (by decide) _ rfl _)⟩
        | true =>
          by_cases h1 : kk = 4
          · subst h1
            by_cases ha : at_ < i
            · have ha2 : decide (at_ < i) = true := by simpa using ha
              obtain rfl : ru = true := by rw [HRU.out, ha2]; rfl
              obtain rfl : res = true := by rw [HRES.out]; rfl
              clear ha
              go_wp2_with (fail)
              first | go_end0 | refine bodyPost_ret (results_none rfl _ _ _) rfl ?_
              exact ⟨rfl, HBw.out.setCell (p := ⟨bo, 0, none⟩) hbo _, HS5.out.set true, HK5.out.trans (Keep.set HS5.out.2.2 (by decide) (by decide) _ rfl _)⟩
            · have ha2 : decide (at_ < i) = false := by simpa using ha
              obtain rfl : ru = false := by rw [HRU.out, ha2]; rfl
              obtain rfl : res = false := by rw [HRES.out]; rfl
              clear ha
              go_wp2_with (fail)
              first | go_end0 | refine bodyPost_ret (results_none rfl _ _ _) rfl ?_
              exact ⟨rfl, HBw.out.setCell (p := ⟨bo, 0, none⟩) hbo _, HS5.out.set false, HK5.out.trans (Keep.set HS5.out.2.2 (by decide) (by decide) _ rfl _)⟩
          · have t1 : (kk == 4) = false := by simpa using h1
            obtain rfl : ru = false := by rw [HRU.out, t1]; rfl
            obtain rfl : res = false := by rw [HRES.out]; rfl
            clear h1
            go_wp2_with (fail)
            first | go_end0 | refine bodyPost_ret (results_none rfl _ _ _) rfl ?_
            exact ⟨rfl, HBw.out.setCell (p := ⟨bo, 0, none⟩) hbo _, HS5.out.set false, HK5.out.trans (Keep.set HS5.out.2.2 (by decide) (by decide) _ rfl _)⟩
      · rw [if_neg hk4] at HRU
        have s4 : (uk == 4) = false := by simpa using hk4
        obtain rfl : ru = true := HRU.out
        obtain rfl : res = b := by rw [HRES.out, Bool.and_true]
        clear hk2 hk3 hk4
        go_wp2_with (fail)
        first | go_end0 | refine bodyPost_ret (results_none rfl _ _ _) rfl ?_
        exact ⟨rfl, HBw.out, HS5.out, HK5.out⟩

set_option maxHeartbeats 4000000 in
set_option maxRecDepth 100000 in
theorem counted_lit {A0 : Option Addr} {c0 : Nat} {vs : List ByteArray} {A1 : Option Addr} {c1 : Nat} {ar : List S68} {A2 : Option Addr} {c2 : Nat} {fs : List S40} {w0 : World} (P : Prg A0 c0 vs A1 c1 ar A2 c2 fs w0) (hL : Lens vs ar fs) {bp bi bo : Nat} (hbo : w0.heap.size ≤ bo) (i : Int) (b : Bool) (u : U) (W : World) (hok : u.kind = 4 → 0 ≤ (findP vs ar fs i u.name).2 ∧ (findP vs ar fs i u.name).2 < fs.length) (hB : Below w0.heap.size w0 W) (hS : Caps bp bi bo #[.slice A0 vs.length c0, .slice A1 ar.length c1, .slice A2 fs.length c2] i b W) :
    Calls Try.prog 55 #[.agg #[.string u.name, .int .i64 u.kind, .int .i64 u.args], .pointer (some ⟨bp, 0, none⟩), .pointer (some ⟨bi, 0, none⟩), .pointer (some ⟨bo, 0, none⟩)] W fun e W' => e = .returned (.tuple #[]) ∧ Below w0.heap.size w0 W' ∧ Caps bp bi bo #[.slice A0 vs.length c0, .slice A1 ar.length c1, .slice A2 fs.length c2] i (b && countU vs ar fs i u) W' ∧ Keep W W' := by
  have HL := Aside0.mk (hL.own i)
  have HP := Aside0.mk P
  have HB := Aside0.mk hB
  have HS := Aside0.mk hS
  have HOK := Aside0.mk hok
  have hp0 : W.cell? ⟨bp, 0, none⟩ = some (.slice A0 vs.length c0) := (blk_cell hS.1 0).trans rfl
  have hp1 : W.cell? ⟨bp, 1, none⟩ = some (.slice A1 ar.length c1) := (blk_cell hS.1 1).trans rfl
  have hp2 : W.cell? ⟨bp, 2, none⟩ = some (.slice A2 fs.length c2) := (blk_cell hS.1 2).trans rfl
  have hi : W.cell? ⟨bi, 0, none⟩ = some (.int .i64 i) := (blk_cell hS.2.1 0).trans rfl
  have g1 := blk_lt hS.1
  have g2 := blk_lt hS.2.1
  have hnew := Aside0.mk (blk_new W (.cells #[.string u.name, .int .i64 u.kind, .int .i64 u.args] 74))
  have HB1 := Aside0.mk (below_alloc (Below.refl W.heap.size W) (.cells #[.string u.name, .int .i64 u.kind, .int .i64 u.args] 74))
  obtain ⟨fp, hfp⟩ : ∃ fp, fp = findP vs ar fs i u.name := ⟨_, rfl⟩
  obtain ⟨ru, hru⟩ : ∃ ru, ru = countU vs ar fs i u := ⟨_, rfl⟩
  obtain ⟨res, hres⟩ : ∃ res, res = (b && ru) := ⟨_, rfl⟩
  rw [← hru, ← hres]
  have HRES := Aside0.mk hres
  rw [← hfp] at HOK
  have HRU : Aside0 (ru = if u.kind = 4 then decide (((rd_T40 fs fp.2).f1.length : Int) = u.args) else true) := ⟨by rw [hru, hfp]; rfl⟩
  have HFP := Aside0.mk hfp
  clear P hL hB hS hfp hru hok hres
  obtain ⟨un, uk, ua⟩ := u
  simp only at HRU HFP hnew HB1 HOK ⊢
  by_cases hk4 : uk = 4
  · subst hk4
    simp only [if_true] at HRU
    have hmx := Kd.C_max HP.out.r2
    go_enter Try.func55, Try.ntmps55
    go_wp2_with (fail)
    refine (find_calls A0 c0 vs A1 c1 ar A2 c2 fs i un _ (Kd.C_below HP.out.r0 (below_then HB.out HB.out.size HB1.out)) (Kd.C_below HP.out.r1 (below_then HB.out HB.out.size HB1.out)) (Kd.C_below HP.out.r2 (below_then HB.out HB.out.size HB1.out)) HL.out).mono ?_
    rintro e W5 ⟨rfl, hB5⟩
    rw [← HFP.out]
    obtain ⟨kk, at_⟩ := fp
    simp only at HRU HOK ⊢
    obtain ⟨ha0, ha1⟩ := HOK.out trivial
    have HB5 := Aside0.mk (below_then HB1.out HB1.out.size hB5)
    have HS5 := Aside0.mk (HS.out.below HB5.out)
    have hn5 := blk_below hnew.out hB5
    have HBw := Aside0.mk (below_then HB.out HB.out.size HB5.out)
    have HK5 := Aside0.mk (Keep.below HB5.out)
    have z2 : W5.cell? ⟨W.heap.size, 2, none⟩ = some (.int .i64 ua) := (blk_cell hn5 2).trans rfl
    have zp : W5.cell? ⟨bp, 2, none⟩ = some (.slice A2 fs.length c2) := (blk_cell HS5.out.1 2).trans rfl
    have zo : W5.cell? ⟨bo, 0, none⟩ = some (.bool b) := (blk_cell HS5.out.2.2 0).trans rfl
    have fo : W5.frozen? ⟨bo, 0, none⟩ = false := free_of_one HS5.out.2.2
    obtain ⟨ad, B1, d1, B2, d2, B4, d4, rfl, y0, y1, y2, y3, y4, m1, hC1, m2, hC2, m4, hC4⟩ := at_T40 (Kd.C_below HP.out.r2 HBw.out) at_ ha0 ha1
    generalize rd_T40 fs at_ = x at *
    clear hn5 hB5 hp0 hp1 hp2 hi HB HS hnew HB1 HFP HP HL HOK y0 y2 y3 y4 hC1 hC2 hC4
    cases b with
    | false =>
      obtain rfl : res = false := by rw [HRES.out]; rfl
      go_wp2_with (fail)
      refine start_ (n := 14) (S := fun w' => w'.cell? ⟨bo, 0, none⟩ = some (.bool false) ∧ w'.cell? ⟨bp, 2, none⟩ = some (.slice (some ad) fs.length c2) ∧ w'.cell? ⟨(ad.add (at_.toNat * 5)).block, (ad.add (at_.toNat * 5)).off + 1, none⟩ = some (.slice B1 x.f1.length d1) ∧ w'.cell? ⟨W.heap.size, 2, none⟩ = some (.int .i64 ua)) (ds := [13]) #[false, false, false, false, false, false, false, false, false, false, false, false, false, false] (by kernel_rfl) rfl rfl (show _ from ⟨zo, zp, y1, z2⟩) (fun hHeld => ?_)
      have HBw := Aside0.mk (below_drew HBw.out)
      have HS5 := Aside0.mk (HS5.out.below (below_drew (Below.refl _ _)))
      have HK5 := Aside0.mk (HK5.out.trans (Keep.below (below_drew (Below.refl _ _))))
      have zo : W5.drew.cell? ⟨bo, 0, none⟩ = some (.bool false) := hHeld.1
      have fo : W5.drew.frozen? ⟨bo, 0, none⟩ = false := free_of_one HS5.out.2.2
      clear zp y1 z2
      generalize W5.drew = W6 at *
      refine take_ (i := 0) (N := some 18) (v := ?_) (a' := ?_) #[true, false, false, false, false, false, false, false, false, false, false, false, false, false] rfl rfl (by kernel_rfl) (fun _ _ _ h => h) (Or.inl ⟨by rfl, ?_⟩) hHeld ?_ ?_
      rotate_left
      · rintro w' ⟨s0, s1, s2, s3⟩
        go_simp
        with_reducible rfl
      rotate_left
      · simp only [Act.put, List.setIfInBounds_toArray, List.set_cons_zero, List.set_cons_succ, i64_w, i32_w]
        rfl
      refine pure_ (i := 1) (N := some 19) (v := ?_) (a' := ?_) #[true, true, false, false, false, false, false, false, false, false, false, false, false, false] rfl rfl (by kernel_rfl) (fun _ _ _ h => h) (Or.inl ⟨by rfl, ?_⟩) ?_ ?_
      rotate_left
      · intro w'
        go_simp
        with_reducible rfl
      rotate_left
      · simp only [Act.put, List.setIfInBounds_toArray, List.set_cons_zero, List.set_cons_succ, i64_w, i32_w]
        rfl
      refine pure_ (i := 2) (N := some 20) (v := undef) (a' := ?_) #[true, true, true, false, false, false, false, false, false, false, false, false, false, false] rfl rfl (by kernel_rfl) (fun _ _ _ h => h) (Or.inr ⟨by rfl, rfl⟩) ?_ ?_
      rotate_left
      · simp only [Act.put, List.setIfInBounds_toArray, List.set_cons_zero, List.set_cons_succ, i64_w, i32_w]
        rfl
      refine pure_ (i := 3) (N := some 21) (v := undef) (a' := ?_) #[true, true, true, true, false, false, false, false, false, false, false, false, false, false] rfl rfl (by kernel_rfl) (fun _ _ _ h => h) (Or.inr ⟨by rfl, rfl⟩) ?_ ?_
      rotate_left
      · simp only [Act.put, List.setIfInBounds_toArray, List.set_cons_zero, List.set_cons_succ, i64_w, i32_w]
        rfl
      refine pure_ (i := 4) (N := some 22) (v := undef) (a' := ?_) #[true, true, true, true, true, false, false, false, false, false, false, false, false, false] rfl rfl (by kernel_rfl) (fun _ _ _ h => h) (Or.inr ⟨by rfl, rfl⟩) ?_ ?_
      rotate_left
      · simp only [Act.put, List.setIfInBounds_toArray, List.set_cons_zero, List.set_cons_succ, i64_w, i32_w]
        rfl
      refine pure_ (i := 5) (N := some 23) (v := undef) (a' := ?_) #[true, true, true, true, true, true, false, false, false, false, false, false, false, false] rfl rfl (by kernel_rfl) (fun _ _ _ h => h) (Or.inr ⟨by rfl, rfl⟩) ?_ ?_
      rotate_left
      · simp only [Act.put, List.setIfInBounds_toArray, List.set_cons_zero, List.set_cons_succ, i64_w, i32_w]
        rfl
      refine pure_ (i := 6) (N := some 24) (v := undef) (a' := ?_) #[true, true, true, true, true, true, true, false, false, false, false, false, false, false] rfl rfl (by kernel_rfl) (fun _ _ _ h => h) (Or.inr ⟨by rfl, rfl⟩) ?_ ?_
      rotate_left
      · simp only [Act.put, List.setIfInBounds_toArray, List.set_cons_zero, List.set_cons_succ, i64_w, i32_w]
        rfl
      refine pure_ (i := 7) (N := some 25) (v := undef) (a' := ?_) #[true, true, true, true, true, true, true, true, false, false, false, false, false, false] rfl rfl (by kernel_rfl) (fun _ _ _ h => h) (Or.inr ⟨by rfl, rfl⟩) ?_ ?_
      rotate_left
      · simp only [Act.put, List.setIfInBounds_toArray, List.set_cons_zero, List.set_cons_succ, i64_w, i32_w]
        rfl
      refine pure_ (i := 8) (N := some 26) (v := undef) (a' := ?_) #[true, true, true, true, true, true, true, true, true, false, false, false, false, false] rfl rfl (by kernel_rfl) (fun _ _ _ h => h) (Or.inr ⟨by rfl, rfl⟩) ?_ ?_
      rotate_left
      · simp only [Act.put, List.setIfInBounds_toArray, List.set_cons_zero, List.set_cons_succ, i64_w, i32_w]
        rfl
      refine pure_ (i := 9) (N := some 27) (v := undef) (a' := ?_) #[true, true, true, true, true, true, true, true, true, true, false, false, false, false] rfl rfl (by kernel_rfl) (fun _ _ _ h => h) (Or.inr ⟨by rfl, rfl⟩) ?_ ?_
      rotate_left
      · simp only [Act.put, List.setIfInBounds_toArray, List.set_cons_zero, List.set_cons_succ, i64_w, i32_w]
        rfl
      refine pure_ (i := 10) (N := some 28) (v := undef) (a' := ?_) #[true, true, true, true, true, true, true, true, true, true, true, false, false, false] rfl rfl (by kernel_rfl) (fun _ _ _ h => h) (Or.inr ⟨by rfl, rfl⟩) ?_ ?_
      rotate_left
      · simp only [Act.put, List.setIfInBounds_toArray, List.set_cons_zero, List.set_cons_succ, i64_w, i32_w]
        rfl
      refine pure_ (i := 11) (N := some 29) (v := undef) (a' := ?_) #[true, true, true, true, true, true, true, true, true, true, true, true, false, false] rfl rfl (by kernel_rfl) (fun _ _ _ h => h) (Or.inr ⟨by rfl, rfl⟩) ?_ ?_
      rotate_left
      · simp only [Act.put, List.setIfInBounds_toArray, List.set_cons_zero, List.set_cons_succ, i64_w, i32_w]
        rfl
      refine pure_ (i := 12) (N := some 30) (v := ?_) (a' := ?_) #[true, true, true, true, true, true, true, true, true, true, true, true, true, false] rfl rfl (by kernel_rfl) (fun _ _ _ h => h) (Or.inl ⟨by rfl, ?_⟩) ?_ ?_
      rotate_left
      · intro w'
        go_simp
        with_reducible rfl
      rotate_left
      · simp only [Act.put, List.setIfInBounds_toArray, List.set_cons_zero, List.set_cons_succ, i64_w, i32_w]
        rfl
      refine last_ (i := 13) (N := none) #[true, true, true, true, true, true, true, true, true, true, true, true, true, true] rfl rfl (by kernel_rfl) (by decide) (fun K' hK => ?_)
      refine skip_ (w1 := W6.setCell ⟨bo, 0, none⟩ (.bool false)) (by rfl) rfl (by go_simp) ?_
      refine hK.out _ _ ?_
      clear hK K'
      refine done_ (by kernel_rfl) ?_
      have hend := HBw.out.setCell (p := ⟨bo, 0, none⟩) hbo (.bool false)
      have HEND := Aside0.mk hend
      clear hend
      go_wp2_with (fail)
      first | go_end0 | refine bodyPost_ret (results_none rfl _ _ _) rfl ?_
      exact ⟨rfl, HEND.out, HS5.out.set false, HK5.out.trans (Keep.set HS5.out.2.2 (by decide) (by decide) _ rfl _)⟩
    | true =>
      obtain rfl : res = ru := by rw [HRES.out, Bool.true_and]
      obtain ⟨eq, heq⟩ : ∃ eq, eq = ((x.f1.length : Int) == ua) := ⟨_, rfl⟩
      have HRR : Aside0 (res = eq) := ⟨by rw [HRU.out, heq, Bool.eq_iff_iff, decide_eq_true_eq, beq_iff_eq]⟩
      go_wp2_with (fail)
      refine start_ (n := 14) (S := fun w' => w'.cell? ⟨bo, 0, none⟩ = some (.bool true) ∧ w'.cell? ⟨bp, 2, none⟩ = some (.slice (some ad) fs.length c2) ∧ w'.cell? ⟨(ad.add (at_.toNat * 5)).block, (ad.add (at_.toNat * 5)).off + 1, none⟩ = some (.slice B1 x.f1.length d1) ∧ w'.cell? ⟨W.heap.size, 2, none⟩ = some (.int .i64 ua)) (ds := [13]) #[false, false, false, false, false, false, false, false, false, false, false, false, false, false] (by kernel_rfl) rfl rfl (show _ from ⟨zo, zp, y1, z2⟩) (fun hHeld => ?_)
      have HBw := Aside0.mk (below_drew HBw.out)
      have HS5 := Aside0.mk (HS5.out.below (below_drew (Below.refl _ _)))
      have HK5 := Aside0.mk (HK5.out.trans (Keep.below (below_drew (Below.refl _ _))))
      have zo : W5.drew.cell? ⟨bo, 0, none⟩ = some (.bool true) := hHeld.1
      have fo : W5.drew.frozen? ⟨bo, 0, none⟩ = false := free_of_one HS5.out.2.2
      clear zp y1 z2
      generalize W5.drew = W6 at *
      refine take_ (i := 0) (N := some 18) (v := ?_) (a' := ?_) #[true, false, false, false, false, false, false, false, false, false, false, false, false, false] rfl rfl (by kernel_rfl) (fun _ _ _ h => h) (Or.inl ⟨by rfl, ?_⟩) hHeld ?_ ?_
      rotate_left
      · rintro w' ⟨s0, s1, s2, s3⟩
        go_simp
        with_reducible rfl
      rotate_left
      · simp only [Act.put, List.setIfInBounds_toArray, List.set_cons_zero, List.set_cons_succ, i64_w, i32_w]
        rfl
      refine pure_ (i := 1) (N := some 19) (v := ?_) (a' := ?_) #[true, true, false, false, false, false, false, false, false, false, false, false, false, false] rfl rfl (by kernel_rfl) (fun _ _ _ h => h) (Or.inl ⟨by rfl, ?_⟩) ?_ ?_
      rotate_left
      · intro w'
        go_simp
        with_reducible rfl
      rotate_left
      · simp only [Act.put, List.setIfInBounds_toArray, List.set_cons_zero, List.set_cons_succ, i64_w, i32_w]
        rfl
      refine pure_ (i := 2) (N := some 20) (v := ?_) (a' := ?_) #[true, true, true, false, false, false, false, false, false, false, false, false, false, false] rfl rfl (by kernel_rfl) (fun _ _ _ h => h) (Or.inl ⟨by rfl, ?_⟩) ?_ ?_
      rotate_left
      · intro w'
        go_simp
        with_reducible rfl
      rotate_left
      · simp only [Act.put, List.setIfInBounds_toArray, List.set_cons_zero, List.set_cons_succ, i64_w, i32_w]
        rfl
      refine take_ (i := 3) (N := some 21) (v := ?_) (a' := ?_) #[true, true, true, true, false, false, false, false, false, false, false, false, false, false] rfl rfl (by kernel_rfl) (fun _ _ _ h => h) (Or.inl ⟨by rfl, ?_⟩) hHeld ?_ ?_
      rotate_left
      · rintro w' ⟨s0, s1, s2, s3⟩
        go_simp
        with_reducible rfl
      rotate_left
      · simp only [Act.put, List.setIfInBounds_toArray, List.set_cons_zero, List.set_cons_succ, i64_w, i32_w]
        rfl
      refine pure_ (i := 4) (N := some 22) (v := ?_) (a' := ?_) #[true, true, true, true, true, false, false, false, false, false, false, false, false, false] rfl rfl (by kernel_rfl) (fun _ _ _ h => h) (Or.inl ⟨by rfl, ?_⟩) ?_ ?_
      rotate_left
      · intro w'
        go_simp
        with_reducible rfl
      rotate_left
      · simp only [Act.put, List.setIfInBounds_toArray, List.set_cons_zero, List.set_cons_succ, i64_w, i32_w]
        rfl
      refine pure_ (i := 5) (N := some 23) (v := ?_) (a' := ?_) #[true, true, true, true, true, true, false, false, false, false, false, false, false, false] rfl rfl (by kernel_rfl) (fun _ _ _ h => h) (Or.inl ⟨by rfl, ?_⟩) ?_ ?_
      rotate_left
      · intro w'
        go_simp
        with_reducible rfl
      rotate_left
      · simp only [Act.put, List.setIfInBounds_toArray, List.set_cons_zero, List.set_cons_succ, i64_w, i32_w]
        rfl
      refine pure_ (i := 6) (N := some 24) (v := ?_) (a' := ?_) #[true, true, true, true, true, true, true, false, false, false, false, false, false, false] rfl rfl (by kernel_rfl) (fun _ _ _ h => h) (Or.inl ⟨by rfl, ?_⟩) ?_ ?_
      rotate_left
      · intro w'
        go_simp
        with_reducible rfl
      rotate_left
      · simp only [Act.put, List.setIfInBounds_toArray, List.set_cons_zero, List.set_cons_succ, i64_w, i32_w]
        rfl
      refine take_ (i := 7) (N := some 25) (v := ?_) (a' := ?_) #[true, true, true, true, true, true, true, true, false, false, false, false, false, false] rfl rfl (by kernel_rfl) (fun _ _ _ h => h) (Or.inl ⟨by rfl, ?_⟩) hHeld ?_ ?_
      rotate_left
      · rintro w' ⟨s0, s1, s2, s3⟩
        go_simp
        with_reducible rfl
      rotate_left
      · simp only [Act.put, List.setIfInBounds_toArray, List.set_cons_zero, List.set_cons_succ, i64_w, i32_w]
        rfl
      refine pure_ (i := 8) (N := some 26) (v := ?_) (a' := ?_) #[true, true, true, true, true, true, true, true, true, false, false, false, false, false] rfl rfl (by kernel_rfl) (fun _ _ _ h => h) (Or.inl ⟨by rfl, ?_⟩) ?_ ?_
      rotate_left
      · intro w'
        go_simp
        with_reducible rfl
      rotate_left
      · simp only [Act.put, List.setIfInBounds_toArray, List.set_cons_zero, List.set_cons_succ, i64_w, i32_w]
        rfl
      refine pure_ (i := 9) (N := some 27) (v := ?_) (a' := ?_) #[true, true, true, true, true, true, true, true, true, true, false, false, false, false] rfl rfl (by kernel_rfl) (fun _ _ _ h => h) (Or.inl ⟨by rfl, ?_⟩) ?_ ?_
      rotate_left
      · intro w'
        go_simp
        with_reducible rfl
      rotate_left
      · simp only [Act.put, List.setIfInBounds_toArray, List.set_cons_zero, List.set_cons_succ, i64_w, i32_w]
        rfl
      refine take_ (i := 10) (N := some 28) (v := ?_) (a' := ?_) #[true, true, true, true, true, true, true, true, true, true, true, false, false, false] rfl rfl (by kernel_rfl) (fun _ _ _ h => h) (Or.inl ⟨by rfl, ?_⟩) hHeld ?_ ?_
      rotate_left
      · rintro w' ⟨s0, s1, s2, s3⟩
        go_simp
        with_reducible rfl
      rotate_left
      · simp only [Act.put, List.setIfInBounds_toArray, List.set_cons_zero, List.set_cons_succ, i64_w, i32_w]
        rfl
      refine pure_ (i := 11) (N := some 29) (v := ?_) (a' := ?_) #[true, true, true, true, true, true, true, true, true, true, true, true, false, false] rfl rfl (by kernel_rfl) (fun _ _ _ h => h) (Or.inl ⟨by rfl, ?_⟩) ?_ ?_
      rotate_left
      · intro w'
        go_simp
        with_reducible rfl
      rotate_left
      · simp only [Act.put, List.setIfInBounds_toArray, List.set_cons_zero, List.set_cons_succ, i64_w, i32_w]
        rfl
      refine pure_ (i := 12) (N := some 30) (v := ?_) (a' := ?_) #[true, true, true, true, true, true, true, true, true, true, true, true, true, false] rfl rfl (by kernel_rfl) (fun _ _ _ h => h) (Or.inl ⟨by rfl, ?_⟩) ?_ ?_
      rotate_left
      · intro w'
        go_simp
        with_reducible rfl
      rotate_left
      · simp only [Act.put, List.setIfInBounds_toArray, List.set_cons_zero, List.set_cons_succ, i64_w, i32_w]
        rfl
      refine last_ (i := 13) (N := none) #[true, true, true, true, true, true, true, true, true, true, true, true, true, true] rfl rfl (by kernel_rfl) (by decide) (fun K' hK => ?_)
      refine skip_ (w1 := W6.setCell ⟨bo, 0, none⟩ (.bool ((x.f1.length : Int) == ua))) (by rfl) rfl (by go_simp) ?_
      refine hK.out _ _ ?_
      clear hK K'
      refine done_ (by kernel_rfl) ?_
      rw [← heq]
      clear heq
      obtain rfl := HRR.out
      have hend := HBw.out.setCell (p := ⟨bo, 0, none⟩) hbo (.bool res)
      have HEND := Aside0.mk hend
      clear hend
      go_wp2_with (fail)
      first | go_end0 | refine bodyPost_ret (results_none rfl _ _ _) rfl ?_
      exact ⟨rfl, HEND.out, HS5.out.set res, HK5.out.trans (Keep.set HS5.out.2.2 (by decide) (by decide) _ rfl _)⟩
  · rw [if_neg hk4] at HRU
    have s4 : (uk == 4) = false := by simpa using hk4
    obtain rfl : ru = true := HRU.out
    obtain rfl : res = b := by rw [HRES.out, Bool.and_true]
    have HBw := Aside0.mk (below_then HB.out HB.out.size HB1.out)
    have HS5 := Aside0.mk (HS.out.below HB1.out)
    have HK5 := Aside0.mk (Keep.below HB1.out)
    clear hk4 HOK HRU
    go_enter Try.func55, Try.ntmps55
    go_wp2_with (fail)
    first | go_end0 | refine bodyPost_ret (results_none rfl _ _ _) rfl ?_
    exact ⟨rfl, HBw.out, HS5.out, HK5.out⟩
end Go.Proofs.Ytdpncghnlkgkdaa.H
set_option linter.unusedVariables false
set_option linter.unusedSimpArgs false
namespace Go.Proofs.Ytdpncghnlkgkdaa.H
open Go.RowKit Go.Proofs.YtdpncghnlkgkdaaW.PrintWords Go.Proofs.YtdpncghnlkgkdaaW.PrintLast Go.Proofs.YtdpncghnlkgkdaaW.PrintMore Go.Proofs.Ytdpncghnlkgkdaa.G

def upTo (p : S40 → Nat → Bool) (fs : List S40) (k : Nat) : Bool := (fs.take k).zipIdx.all fun fi => p fi.1 fi.2
theorem rd40_take {fs : List S40} {k : Nat} (h : k < fs.length) : fs.take (k + 1) = fs.take k ++ [rd_T40 fs (k : Int)] := by
  unfold rd_T40
  rw [Int.toNat_natCast, List.getD_eq_getElem?_getD, List.getElem?_eq_getElem h, List.take_succ_eq_append_getElem h]
  rfl
theorem upTo_succ (p : S40 → Nat → Bool) {fs : List S40} {k : Nat} (h : k < fs.length) : upTo p fs (k + 1) = (upTo p fs k && p (rd_T40 fs (k : Int)) k) := by
  unfold upTo
  rw [rd40_take h, List.zipIdx_append, List.all_append]
  simp [List.zipIdx_cons, Nat.min_eq_left (Nat.le_of_lt h)]
theorem upTo_all (p : S40 → Nat → Bool) (fs : List S40) : upTo p fs fs.length = fs.zipIdx.all fun fi => p fi.1 fi.2 := by unfold upTo; rw [List.take_length]
theorem foldl_and {α : Type} (f : α → Bool) : ∀ (l : List α) (b : Bool), l.foldl (fun b u => b && f u) b = (b && l.all f)
  | [], b => by simp
  | x :: r, b => by rw [List.foldl_cons, foldl_and f r, List.all_cons, Bool.and_assoc]
theorem rd68_take' {ar : List S68} {k : Nat} (h : k < ar.length) : ar.take (k + 1) = ar.take k ++ [rd_T68 ar (k : Int)] := by
  unfold rd_T68
  rw [Int.toNat_natCast, List.getD_eq_getElem?_getD, List.getElem?_eq_getElem h, List.take_succ_eq_append_getElem h]
  rfl
theorem rd68_take {ar : List S68} {k : Nat} (h : k < ar.length) : (ar.take (k + 1)).map (·.f0) = (ar.take k).map (·.f0) ++ [(rd_T68 ar (k : Int)).f0] := by
  rw [rd68_take' h, List.map_append]
  rfl
theorem rd40_names {fs : List S40} {k : Nat} (h : k < fs.length) : (fs.take (k + 1)).map (·.f0) = (fs.take k).map (·.f0) ++ [(rd_T40 fs (k : Int)).f0] := by
  rw [rd40_take h, List.map_append]
  rfl
theorem all_own_false {fs : List S40} {k : Nat} (h : k < fs.length) (hb : unlikeB (ownP (rd_T40 fs (k : Int))) = false) : (fs.all fun f => unlikeB (ownP f)) = false := by
  rw [List.all_eq_false]
  exact ⟨rd_T40 fs (k : Int), rd40_mem ⟨by omega, by omega⟩, by simp [hb]⟩
abbrev RS (w0 w : World) (v : Value) (l : List ByteArray) : Prop := Kd.R Kd.string 9 w w0.heap.size (fun _ => True) v l
/-- A string behind a row of strings. -/
theorem len_bd {vs : List ByteArray} {ar : List S68} {fs : List S40} (hL : Lens vs ar fs) (k : Nat) : (vs ++ (ar.take k).map (·.f0)).length ≤ 2000 := by
  have := hL.1; have := hL.2.1
  simp; omega
theorem len_bd2 {vs : List ByteArray} {ar : List S68} {fs : List S40} (hL : Lens vs ar fs) (k : Nat) : (vs ++ ar.map (·.f0) ++ (fs.take k).map (·.f0)).length ≤ 3000 := by
  have := hL.1; have := hL.2.1; have := hL.2.2.1
  simp; omega

set_option maxHeartbeats 8000000 in
set_option maxRecDepth 100000 in
theorem named_calls (A0 : Option Addr) (c0 : Nat) (vs : List ByteArray) (A1 : Option Addr) (c1 : Nat) (ar : List S68) (A2 : Option Addr) (c2 : Nat) (fs : List S40) (w : World) (P : Prg A0 c0 vs A1 c1 ar A2 c2 fs w) (hL : Lens vs ar fs) :
    Calls Try.prog 30 #[.agg #[.slice A0 vs.length c0, .slice A1 ar.length c1, .slice A2 fs.length c2]] w fun e w' => e = .returned (.bool (namedP vs ar fs)) ∧ Below w.heap.size w w' := by
  have hmf : ∀ (fn : Fn) (first cap : Array Value) (w : World), (Instr.makeFunc fn first cap).run Try.prog w = .ok (.func fn first cap) w := fun _ _ _ _ => rfl
  have eg54 := enters_of Try.func54 (by kernel_rfl) rfl
  obtain ⟨W1, hW1⟩ : ∃ W1, W1 = w.alloc (.cells #[.slice A0 vs.length c0, .slice A1 ar.length c1, .slice A2 fs.length c2] 26) := ⟨_, rfl⟩
  have HW1 := Aside0.mk hW1
  have HBw := Aside0.mk (show Below w.heap.size w W1 by rw [hW1]; exact below_alloc (Below.refl _ _) _)
  have hb3 : W1.heap[w.heap.size]? = some (.cells #[.slice A0 vs.length c0, .slice A1 ar.length c1, .slice A2 fs.length c2] 26 (0, 0)) := by rw [hW1]; exact blk_new w _
  have HP := Aside0.mk (P.below HBw.out)
  have HL := Aside0.mk hL
  have HB3 := Aside0.mk hb3
  have hp0 : W1.cell? ⟨w.heap.size, 0, none⟩ = some (.slice A0 vs.length c0) := (blk_cell hb3 0).trans rfl
  obtain ⟨np, hnp⟩ : ∃ np, np = namedP vs ar fs := ⟨_, rfl⟩
  rw [← hnp]
  have HNP := Aside0.mk hnp
  have hvl := hL.1
  clear P hL hb3 hnp hW1
  go_enter Try.func30, Try.ntmps30
  go_wp2_with (fail)
  rw [← HW1.out]
  refine (clone_calls A0 c0 vs W1 HP.out.r0 (by omega)).mono ?_
  rintro e w2 ⟨v2, rfl, hR2, hB2⟩
  have hb32 := blk_below HB3.out hB2
  have hp1 : w2.cell? ⟨w.heap.size, 1, none⟩ = some (.slice A1 ar.length c1) := (blk_cell hb32 1).trans rfl
  have hp2 : w2.cell? ⟨w.heap.size, 2, none⟩ = some (.slice A2 fs.length c2) := (blk_cell hb32 2).trans rfl
  obtain ⟨A3, c3, rfl⟩ := Kd.R_slice hR2
  have HR2 := Aside0.mk hR2
  have HB2 := Aside0.mk hB2
  have hmx1 := Kd.C_max HP.out.r1
  have hmx2 := Kd.C_max HP.out.r2
  clear hR2 hB2 hb32 hp0
  go_wp2_with (fail)
  go_loopw [3, 17] (fun v3 v17 wr => ∃ (k : Nat) (l : List ByteArray) (A6 : Option Addr) (c6 : Nat), k ≤ ar.length ∧ v17 = .int .i64 k ∧ v3 = .slice A6 l.length c6 ∧ Aside0 (l = vs ++ (ar.take k).map (·.f0)) ∧ Aside0 (RS W1 wr (.slice A6 l.length c6) l) ∧ Aside0 (Below W1.heap.size W1 wr)) (fun _ v17 _ => ar.length - (intOf v17).toNat)
  case atStart => exact ⟨0, vs, A3, c3, Nat.zero_le _, rfl, rfl, ⟨by simp⟩, HR2, HB2⟩
  case round =>
    clear HR2 HB2 hp1 hp2
    obtain ⟨k, l, A6, c6, hk, rfl, rfl, HE, HR, HB⟩ := hrel
    obtain ⟨wo, rfl⟩ : ∃ wo : World, wo = wr := ⟨_, rfl⟩
    have hll : l.length ≤ 2000 := by rw [HE.out]; exact len_bd HL.out k
    by_cases hlt : k < ar.length
    · obtain ⟨ad, rfl, x0, x1⟩ := at_T68 (Kd.C_below HP.out.r1 HB.out) (k : Int) (by omega) (by omega)
      have HE2 : Aside0 (l ++ [(rd_T68 ar (k : Int)).f0] = vs ++ (ar.take (k + 1)).map (·.f0)) := ⟨by rw [rd68_take hlt, HE.out, List.append_assoc]⟩
      generalize rd_T68 ar (k : Int) = x at *
      rw [Int.toNat_natCast] at x0 x1
      have HRa := Aside0.mk (Kd.R_alloc HR.out (.cells #[.string x.f0, .int .i64 x.f1] 68))
      have HBa := Aside0.mk (below_alloc HB.out (.cells #[.string x.f0, .int .i64 x.f1] 68))
      clear HR HB
      go_wp2_with (at_builtin; refine Kd.R_append Kd.string (w0 := W1) W1.heap.size rfl (.tmp 21) (.tmp 24) 22 9 (.string ⟨#[]⟩) 16 rfl Try.underlying22 info9 rfl (by decide) (by omega) (.slice A6 l.length c6) l x.f0 [.string x.f0] (fun _ => True) (fun _ => False) rfl (by rw [show (wo.alloc (.cells #[.string x.f0, .int .i64 x.f1] 68)).heap.size = wo.heap.size + 1 by simp]; rfl) rfl (fun _ hk => hk.elim) (fun _ _ => trivial) HRa.out HBa.out HBa.out.size (by omega) ?_)
      intro v5 w5 hR5 hB5 hg5 hat5
      obtain ⟨A7, c7, rfl⟩ := Kd.R_slice hR5
      have HR5 := Aside0.mk hR5
      have HB5 := Aside0.mk hB5
      clear hR5 hB5 hg5 hat5 HRa HBa x0 x1
      go_wp2_with (fail)
      go_roundw
      case rel => exact ⟨k + 1, l ++ [x.f0], A7, c7, hlt, by go_num, rfl, HE2, HR5, HB5⟩
      case measure => simp [intOf]; omega
    · obtain rfl : k = ar.length := by omega
      have HE2 : Aside0 (l = vs ++ ar.map (·.f0)) := ⟨by rw [HE.out, List.take_length]⟩
      have hp2 : wo.cell? ⟨w.heap.size, 2, none⟩ = some (.slice A2 fs.length c2) := (blk_cell (blk_below HB3.out HB.out) 2).trans rfl
      clear HE
      go_wp2_with (fail)
      go_loopw [3, 30] (fun v3 v30 wr => ∃ (k : Nat) (l : List ByteArray) (A6 : Option Addr) (c6 : Nat), k ≤ fs.length ∧ v30 = .int .i64 k ∧ v3 = .slice A6 l.length c6 ∧ Aside0 (l = vs ++ ar.map (·.f0) ++ (fs.take k).map (·.f0)) ∧ Aside0 (RS W1 wr (.slice A6 l.length c6) l) ∧ Aside0 (Below W1.heap.size W1 wr) ∧ Aside0 (((fs.take k).all fun f => unlikeB (ownP f)) = true)) (fun _ v30 _ => fs.length - (intOf v30).toNat)
      case atStart => exact ⟨0, l, A6, c6, Nat.zero_le _, rfl, rfl, ⟨by rw [HE2.out]; simp⟩, HR, HB, ⟨by simp⟩⟩
      case round =>
        clear HR HB HE2 hp2 hll
        obtain ⟨k, l, A6, c6, hk, rfl, rfl, HE, HR, HB, HU⟩ := hrel
        obtain ⟨wi, rfl⟩ : ∃ wi : World, wi = wr := ⟨_, rfl⟩
        have hll : l.length ≤ 3000 := by rw [HE.out]; exact len_bd2 HL.out k
        by_cases hlt : k < fs.length
        · obtain ⟨ad, B1, d1, B2, d2, B4, d4, rfl, y0, y1, y2, y3, y4, m1, hC1, m2, hC2, m4, hC4⟩ := at_T40 HP.out.r2 (k : Int) (by omega) (by omega)
          have HE2 : Aside0 (l ++ [(rd_T40 fs (k : Int)).f0] = vs ++ ar.map (·.f0) ++ (fs.take (k + 1)).map (·.f0)) := ⟨by rw [rd40_names hlt, HE.out, List.append_assoc]⟩
          have HU2 : Aside0 (unlikeB (ownP (rd_T40 fs (k : Int))) = true → ((fs.take (k + 1)).all fun f => unlikeB (ownP f)) = true) := ⟨fun h => by rw [rd40_take hlt, List.all_append, HU.out]; simp [h]⟩
          have HU3 : Aside0 (unlikeB (ownP (rd_T40 fs (k : Int))) = false → np = false) := ⟨fun h => by rw [HNP.out]; unfold namedP; rw [all_own_false hlt h]; rfl⟩
          obtain ⟨n1, n2⟩ := HL.out.own (k : Int) ⟨by omega, by omega⟩
          generalize rd_T40 fs (k : Int) = x at *
          rw [Int.toNat_natCast] at y0 y1 y2 y3 y4
          have x0 := pw_cell_below HB.out y0
          have x1 := pw_cell_below HB.out y1
          have x2 := pw_cell_below HB.out y2
          have x3 := pw_cell_below HB.out y3
          have x4 := pw_cell_below HB.out y4
          clear y0 y1 y2 y3 y4
          obtain ⟨ob, hob⟩ : ∃ ob, ob = Obj.cells #[.string x.f0, .slice B1 x.f1.length d1, .slice B2 x.f2.length d2, .bool x.f3, .slice B4 x.f4.length d4] 40 := ⟨_, rfl⟩
          have HRa := Aside0.mk (Kd.R_alloc HR.out ob)
          have HBa := Aside0.mk (below_alloc HB.out ob)
          have hne : some wi.heap.size ≠ (Value.slice A6 l.length c6).ownBlock := fun e => by
            have := ((Kd.R_bound HR.out).1 _ e.symm).2.2.1
            omega
          have hnew := Aside0.mk (blk_new wi ob)
          have HC1 := Aside0.mk hC1
          have HC2 := Aside0.mk hC2
          rw [hob] at HRa HBa hnew
          have hsz : (wi.alloc (.cells #[.string x.f0, .slice B1 x.f1.length d1, .slice B2 x.f2.length d2, .bool x.f3, .slice B4 x.f4.length d4] 40)).heap.size = wi.heap.size + 1 := by simp
          have HNE := Aside0.mk hne
          have HSZ := Aside0.mk hsz
          clear HR HB hC1 hC2 hC4 hob hne hsz
          go_wp2_with (at_builtin; refine Kd.R_append Kd.string (w0 := W1) W1.heap.size rfl (.tmp 34) (.tmp 37) 22 9 (.string ⟨#[]⟩) 16 rfl Try.underlying22 info9 rfl (by decide) (by omega) (.slice A6 l.length c6) l x.f0 [.string x.f0] (fun _ => True) (fun _ => False) rfl (by rw [HSZ.out]; rfl) rfl (fun _ hk => hk.elim) (fun _ _ => trivial) HRa.out HBa.out HBa.out.size (by omega) ?_)
          intro v5 w5 hR5 hB5 hg5 hat5
          obtain ⟨A7, c7, rfl⟩ := Kd.R_slice hR5
          have HR5 := Aside0.mk hR5
          have HB5 := Aside0.mk hB5
          have hb5 : w5.heap[wi.heap.size]? = some (.cells #[.string x.f0, .slice B1 x.f1.length d1, .slice B2 x.f2.length d2, .bool x.f3, .slice B4 x.f4.length d4] 40 (0, 0)) := by
            rw [hg5.block wi.heap.size (by rw [HSZ.out]; omega) HNE.out]
            exact hnew.out
          have z0 : w5.cell? ⟨wi.heap.size, 0, none⟩ = some (.string x.f0) := (blk_cell hb5 0).trans rfl
          have z1 : w5.cell? ⟨wi.heap.size, 1, none⟩ = some (.slice B1 x.f1.length d1) := (blk_cell hb5 1).trans rfl
          have z2 : w5.cell? ⟨wi.heap.size, 2, none⟩ = some (.slice B2 x.f2.length d2) := (blk_cell hb5 2).trans rfl
          have z3 : w5.cell? ⟨wi.heap.size, 3, none⟩ = some (.bool x.f3) := (blk_cell hb5 3).trans rfl
          have z4 : w5.cell? ⟨wi.heap.size, 4, none⟩ = some (.slice B4 x.f4.length d4) := (blk_cell hb5 4).trans rfl
          have hC1 := Kd.C_below HC1.out HB5.out
          have hC2 := Kd.C_below HC2.out HB5.out
          clear hR5 hB5 hg5 hat5 HRa HBa x0 x1 x2 x3 x4 hb5 hnew HNE HSZ HC1 HC2
          go_wp2_with (fail)
          refine (own_calls x.f0 B1 d1 x.f1 B2 d2 x.f2 x.f3 _ w5 hC1 m1 hC2 m2 n1 n2 ⟨_, _, _, rfl⟩).mono ?_
          rintro e w6 ⟨v6, rfl, hR6, hB6⟩
          obtain ⟨ol, hol⟩ : ∃ ol, ol = x.f1 ++ x.f2 := ⟨_, rfl⟩
          have hol2 : ol.length ≤ 2000 := by rw [hol, List.length_append]; omega
          rw [← hol] at hR6
          have HOL := Aside0.mk hol
          clear hol
          obtain ⟨A9, c9, rfl⟩ := Kd.R_slice hR6
          have hC9 := (Kd.R_reads' hR6).2.2
          have HR6 := Aside0.mk (Kd.R_below HR5.out hB6)
          have HB6 := Aside0.mk (below_then HB5.out HB5.out.size hB6)
          clear hR6 hB6 hC1 hC2 z0 z1 z2 z3 z4 HR5 HB5
          go_wp2_with (fail)
          refine (unlike_calls A9 c9 ol w6 hC9 (by omega)).mono ?_
          rintro e w7 ⟨rfl, hB7⟩
          have HR7 := Aside0.mk (Kd.R_below HR6.out hB7)
          have HB7 := Aside0.mk (below_then HB6.out HB6.out.size hB7)
          clear hB7 HR6 HB6 hC9
          obtain ⟨ub, hub⟩ : ∃ ub, ub = unlikeB (ownP x) := ⟨_, rfl⟩
          rw [show unlikeB ol = ub by rw [hub, HOL.out]; rfl]
          rw [← hub] at HU2 HU3
          clear hub
          cases ub with
          | false =>
            obtain rfl := HU3.out rfl
            have HE3 := Aside0.mk (below_then HBw.out HBw.out.size HB7.out)
            go_wp2_with (fail)
            go_ret
            exact ⟨rfl, HE3.out⟩
          | true =>
            have HU4 := Aside0.mk (HU2.out rfl)
            go_wp2_with (fail)
            go_roundw
            case rel => exact ⟨k + 1, l ++ [x.f0], A7, c7, hlt, by go_num, by simp, HE2, HR7, HB7, HU4⟩
            case measure => simp [intOf]; omega
        · obtain rfl : k = fs.length := by omega
          have HE2 : Aside0 (l = namesP vs ar fs) := ⟨by rw [HE.out, List.take_length]; rfl⟩
          have HU2 : Aside0 ((fs.all fun f => unlikeB (ownP f)) = true) := ⟨by have := HU.out; rw [List.take_length] at this; exact this⟩
          have hC := (Kd.R_reads' HR.out).2.2
          clear HE HU
          go_wp2_with (fail)
          refine (unlike_calls A6 c6 l wi hC (by omega)).mono ?_
          rintro e w8 ⟨rfl, hB8⟩
          have HB8 := Aside0.mk (below_then HB.out HB.out.size hB8)
          obtain ⟨b0, hb0⟩ : ∃ b0, b0 = unlikeB l := ⟨_, rfl⟩
          rw [← hb0]
          have HB0 : Aside0 (b0 = unlikeB (namesP vs ar fs)) := ⟨by rw [hb0, HE2.out]⟩
          have hbo : W1.heap.size ≤ w8.heap.size := HB8.out.size
          have hp2 : w8.cell? ⟨w.heap.size, 2, none⟩ = some (.slice A2 fs.length c2) := (blk_cell (blk_below HB3.out HB8.out) 2).trans rfl
          have HBO := Aside0.mk (blk_new w8 (.cells #[.bool b0] 4))
          have HB9 := Aside0.mk (below_alloc HB8.out (.cells #[.bool b0] 4))
          have hlt3 : w.heap.size < w8.heap.size := blk_lt (blk_below HB3.out HB8.out)
          clear hB8 hb0 HE2 HR HB hC hll
          go_wp2_with (fail)
          go_loopw [49] (fun v49 wr => ∃ k : Nat, k ≤ fs.length ∧ v49 = .int .i64 k ∧ Aside0 (wr.heap[w8.heap.size]? = some (.cells #[.bool (b0 && upTo (fun f i => (usesS f.f4).all (rightU vs ar fs i)) fs k)] 4 (0, 0))) ∧ Aside0 (Below W1.heap.size W1 wr)) (fun v49 _ => fs.length - (intOf v49).toNat)
          case atStart => exact ⟨0, Nat.zero_le _, rfl, ⟨by simp only [upTo, List.take_zero, List.zipIdx_nil, List.all_nil, Bool.and_true]; exact HBO.out⟩, HB9⟩
          case round =>
            clear HBO HB9 hp2
            obtain ⟨k, hk, rfl, HO, HB⟩ := hrel
            obtain ⟨wj, rfl⟩ : ∃ wj : World, wj = wr := ⟨_, rfl⟩
            by_cases hlt : k < fs.length
            · obtain ⟨ad, B1, d1, B2, d2, B4, d4, rfl, y0, y1, y2, y3, y4, m1, hC1, m2, hC2, m4, hC4⟩ := at_T40 HP.out.r2 (k : Int) (by omega) (by omega)
              have HUP := Aside0.mk (upTo_succ (fun f i => (usesS f.f4).all (rightU vs ar fs i)) hlt)
              generalize rd_T40 fs (k : Int) = x at *
              rw [Int.toNat_natCast] at y0 y1 y2 y3 y4
              have x0 := pw_cell_below HB.out y0
              have x1 := pw_cell_below HB.out y1
              have x2 := pw_cell_below HB.out y2
              have x3 := pw_cell_below HB.out y3
              have x4 := pw_cell_below HB.out y4
              have HC4 := Aside0.mk hC4
              obtain ⟨bk, hbk⟩ : ∃ bk, bk = (b0 && upTo (fun f i => (usesS f.f4).all (rightU vs ar fs i)) fs k) := ⟨_, rfl⟩
              rw [← hbk] at HO
              have HBK := Aside0.mk hbk
              have hB2 := below_alloc (below_alloc (Below.refl wj.heap.size wj) (.cells #[.int .i64 (k : Int)] 3)) (.cells #[.string x.f0, .slice B1 x.f1.length d1, .slice B2 x.f2.length d2, .bool x.f3, .slice B4 x.f4.length d4] 40)
              have HS2 : Aside0 (Now (fun b W => Caps w.heap.size wj.heap.size w8.heap.size #[.slice A0 vs.length c0, .slice A1 ar.length c1, .slice (some ad) fs.length c2] (k : Int) b W) bk W1 ((wj.alloc (.cells #[.int .i64 (k : Int)] 3)).alloc (.cells #[.string x.f0, .slice B1 x.f1.length d1, .slice B2 x.f2.length d2, .bool x.f3, .slice B4 x.f4.length d4] 40))) :=
                ⟨below_then HB.out HB.out.size hB2, blk_below (blk_below HB3.out HB.out) hB2, blk_below (blk_new wj _) (below_alloc (Below.refl _ _) _), blk_below HO.out hB2⟩
              have HD : Aside0 (Does 54 w.heap.size wj.heap.size w8.heap.size (fun b W => Caps w.heap.size wj.heap.size w8.heap.size #[.slice A0 vs.length c0, .slice A1 ar.length c1, .slice (some ad) fs.length c2] (k : Int) b W) (fun b u => b && rightU vs ar fs (k : Int) u) (fun _ _ => True) W1) :=
                ⟨{ eg := eg54, call := fun s u W _ hB hS => named_lit HP.out HL.out hbo (k : Int) s u W hB hS, stays := fun s W W' h hb => h.below hb }⟩
              clear hC1 hC2 hC4 y0 y1 y2 y3 y4 hbk hB2
              go_wp2_with (fail)
              refine (stmts_calls HD.out _ x.f4 B4 d4 bk _ (Nat.le_refl _) HC4.out m4 HS2.out (fun _ _ _ _ => trivial)).mono ?_
              rintro e w10 ⟨rfl, hB10, hS10, hK10⟩
              rw [foldl_and] at hS10
              have HO2 : Aside0 (w10.heap[w8.heap.size]? = some (.cells #[.bool (b0 && upTo (fun f i => (usesS f.f4).all (rightU vs ar fs i)) fs (k + 1))] 4 (0, 0))) := ⟨by rw [HUP.out, ← Bool.and_assoc, ← HBK.out]; exact hS10.2.2⟩
              have HB10 := Aside0.mk hB10
              clear hB10 hS10 hK10 HS2 HD HO HB x0 x1 x2 x3 x4
              go_wp2_with (fail)
              go_roundw
              case rel => exact ⟨k + 1, hlt, by go_num, HO2, HB10⟩
              case measure => simp [intOf]; omega
            · obtain rfl : k = fs.length := by omega
              obtain ⟨bk, hbk⟩ : ∃ bk, bk = (b0 && upTo (fun f i => (usesS f.f4).all (rightU vs ar fs i)) fs fs.length) := ⟨_, rfl⟩
              rw [← hbk] at HO
              have e : np = bk := by
                rw [HNP.out, hbk, HB0.out, upTo_all]
                unfold namedP
                rw [HU2.out, Bool.true_and]
              subst e
              have zo : wj.cell? ⟨w8.heap.size, 0, none⟩ = some (.bool np) := cell_of_one HO.out
              have HEND := Aside0.mk (below_then HBw.out HBw.out.size HB.out)
              clear hbk HO
              go_wp2_with (fail)
              go_ret
              exact ⟨rfl, HEND.out⟩
end Go.Proofs.Ytdpncghnlkgkdaa.H
set_option linter.unusedVariables false
set_option linter.unusedSimpArgs false
namespace Go.Proofs.Ytdpncghnlkgkdaa.H
open Go.RowKit Go.Proofs.YtdpncghnlkgkdaaW.PrintWords Go.Proofs.YtdpncghnlkgkdaaW.PrintLast Go.Proofs.YtdpncghnlkgkdaaW.PrintMore Go.Proofs.Ytdpncghnlkgkdaa.G

theorem findP_four {vs : List ByteArray} {ar : List S68} {fs : List S40} {i : Int} {s : ByteArray} (h : (findP vs ar fs i s).1 = 4) : 0 ≤ (findP vs ar fs i s).2 ∧ (findP vs ar fs i s).2 < fs.length := by
  unfold findP at h ⊢
  dsimp only at h ⊢
  generalize (if 0 ≤ i ∧ i < (fs.length : Int) then placeP (ownP (rd_T40 fs i)) s else -1) = own at h ⊢
  by_cases g0 : 0 ≤ own
  · rw [if_pos g0] at h; simp at h
  · rw [if_neg g0] at h ⊢
    by_cases g1 : 0 ≤ placeP vs s
    · rw [if_pos g1] at h; simp at h
    · rw [if_neg g1] at h ⊢
      by_cases g2 : 0 ≤ placeP (ar.map (·.f0)) s
      · rw [if_pos g2] at h; simp at h
      · rw [if_neg g2] at h ⊢
        by_cases g3 : 0 ≤ placeP (fs.map (·.f0)) s
        · rw [if_pos g3]
          have := placeP_hi s (fs.map (·.f0))
          rw [List.length_map] at this
          exact ⟨g3, this⟩
        · rw [if_neg g3] at h; simp at h
theorem main_dec (s : ByteArray) : decide (s = mainS) = (s.toList == [109, 97, 105, 110]) := by
  rw [← bytes_beq, ByteArray.toList_eq mainS]
  rfl
theorem rightU_four {vs : List ByteArray} {ar : List S68} {fs : List S40} {i : Int} {u : U} (h : rightU vs ar fs i u = true) (hk : u.kind = 4) : 0 ≤ (findP vs ar fs i u.name).2 ∧ (findP vs ar fs i u.name).2 < fs.length := by
  unfold rightU at h
  simp only [hk] at h
  have : (findP vs ar fs i u.name).1 = 4 := by
    by_cases e : (findP vs ar fs i u.name).1 = 4
    · exact e
    · have e2 : ((findP vs ar fs i u.name).1 == 4) = false := by simpa using e
      rw [e2] at h
      simp at h
  exact findP_four this
theorem mem_zip {fs : List S40} {k : Nat} (h : k < fs.length) : (rd_T40 fs (k : Int), k) ∈ fs.zipIdx := by
  rw [List.mem_zipIdx_iff_getElem?]
  unfold rd_T40
  simp [h]
theorem named_right {vs : List ByteArray} {ar : List S68} {fs : List S40} (h : namedP vs ar fs = true) {k : Nat} (hk : k < fs.length) : ∀ u ∈ usesS (rd_T40 fs (k : Int)).f4, rightU vs ar fs (k : Int) u = true := by
  unfold namedP at h
  simp only [Bool.and_eq_true] at h
  have h2 := List.all_eq_true.1 h.2 _ (mem_zip hk)
  exact fun u hu => List.all_eq_true.1 h2 u hu

set_option maxHeartbeats 8000000 in
set_option maxRecDepth 100000 in
theorem counted_calls (A0 : Option Addr) (c0 : Nat) (vs : List ByteArray) (A1 : Option Addr) (c1 : Nat) (ar : List S68) (A2 : Option Addr) (c2 : Nat) (fs : List S40) (w : World) (P : Prg A0 c0 vs A1 c1 ar A2 c2 fs w) (hL : Lens vs ar fs) (hf : 0 < fs.length) (hN : namedP vs ar fs = true) :
    Calls Try.prog 31 #[.agg #[.slice A0 vs.length c0, .slice A1 ar.length c1, .slice A2 fs.length c2]] w fun e w' => e = .returned (.bool (countedP vs ar fs)) ∧ Below w.heap.size w w' := by
  have hmf : ∀ (fn : Fn) (first cap : Array Value) (w : World), (Instr.makeFunc fn first cap).run Try.prog w = .ok (.func fn first cap) w := fun _ _ _ _ => rfl
  have eg55 := enters_of Try.func55 (by kernel_rfl) rfl
  obtain ⟨W1, hW1⟩ : ∃ W1, W1 = w.alloc (.cells #[.slice A0 vs.length c0, .slice A1 ar.length c1, .slice A2 fs.length c2] 26) := ⟨_, rfl⟩
  have HW1 := Aside0.mk hW1
  have HBw := Aside0.mk (show Below w.heap.size w W1 by rw [hW1]; exact below_alloc (Below.refl _ _) _)
  have hb3 : W1.heap[w.heap.size]? = some (.cells #[.slice A0 vs.length c0, .slice A1 ar.length c1, .slice A2 fs.length c2] 26 (0, 0)) := by rw [hW1]; exact blk_new w _
  have HP := Aside0.mk (P.below HBw.out)
  have HL := Aside0.mk hL
  have HB3 := Aside0.mk hb3
  have hz1 : W1.heap.size = w.heap.size + 1 := by rw [hW1]; simp
  have HZ1 := Aside0.mk hz1
  have HNR := Aside0.mk (fun k hk => named_right hN (k := k) hk)
  obtain ⟨np, hnp⟩ : ∃ np, np = countedP vs ar fs := ⟨_, rfl⟩
  rw [← hnp]
  have HNP := Aside0.mk hnp
  have hfl := hL.2.2.1
  have hbo : W1.heap.size ≤ w.heap.size + 1 := by omega
  have HBO := Aside0.mk (blk_new W1 (.cells #[.bool true] 4))
  have HB9 := Aside0.mk (below_alloc (Below.refl W1.heap.size W1) (.cells #[.bool true] 4))
  rw [hz1] at HBO
  have hq2 : W1.cell? ⟨w.heap.size, 2, none⟩ = some (.slice A2 fs.length c2) := (blk_cell hb3 2).trans rfl
  clear P hL hb3 hnp hN hz1 hW1
  have HMX2 := Kd.C_max HP.out.r2
  go_enter Try.func31, Try.ntmps31
  go_wp2_with (fail)
  rw [← HW1.out]
  go_loopw [10] (fun v10 wr => ∃ k : Nat, k ≤ fs.length ∧ v10 = .int .i64 k ∧ Aside0 (wr.heap[w.heap.size + 1]? = some (.cells #[.bool (upTo (fun f i => (usesS f.f4).all (countU vs ar fs i)) fs k)] 4 (0, 0))) ∧ Aside0 (Below W1.heap.size W1 wr)) (fun v10 _ => fs.length - (intOf v10).toNat)
  case atStart => exact ⟨0, Nat.zero_le _, rfl, ⟨by simp only [upTo, List.take_zero, List.zipIdx_nil, List.all_nil]; exact HBO.out⟩, HB9⟩
  case round =>
    clear HBO HB9 hq2
    obtain ⟨k, hk, rfl, HO, HB⟩ := hrel
    obtain ⟨wj, rfl⟩ : ∃ wj : World, wj = wr := ⟨_, rfl⟩
    by_cases hlt : k < fs.length
    · obtain ⟨ad, B1, d1, B2, d2, B4, d4, rfl, y0, y1, y2, y3, y4, m1, hC1, m2, hC2, m4, hC4⟩ := at_T40 HP.out.r2 (k : Int) (by omega) (by omega)
      have HUP := Aside0.mk (upTo_succ (fun f i => (usesS f.f4).all (countU vs ar fs i)) hlt)
      have HOK := Aside0.mk (HNR.out k hlt)
      generalize rd_T40 fs (k : Int) = x at *
      rw [Int.toNat_natCast] at y0 y1 y2 y3 y4
      have x0 := pw_cell_below HB.out y0
      have x1 := pw_cell_below HB.out y1
      have x2 := pw_cell_below HB.out y2
      have x3 := pw_cell_below HB.out y3
      have x4 := pw_cell_below HB.out y4
      have HC4 := Aside0.mk hC4
      obtain ⟨bk, hbk⟩ : ∃ bk, bk = upTo (fun f i => (usesS f.f4).all (countU vs ar fs i)) fs k := ⟨_, rfl⟩
      rw [← hbk] at HO
      have HBK := Aside0.mk hbk
      have hB2 := below_alloc (below_alloc (Below.refl wj.heap.size wj) (.cells #[.int .i64 (k : Int)] 3)) (.cells #[.string x.f0, .slice B1 x.f1.length d1, .slice B2 x.f2.length d2, .bool x.f3, .slice B4 x.f4.length d4] 40)
      have HS2 : Aside0 (Now (fun b W => Caps w.heap.size wj.heap.size (w.heap.size + 1) #[.slice A0 vs.length c0, .slice A1 ar.length c1, .slice (some ad) fs.length c2] (k : Int) b W) bk W1 ((wj.alloc (.cells #[.int .i64 (k : Int)] 3)).alloc (.cells #[.string x.f0, .slice B1 x.f1.length d1, .slice B2 x.f2.length d2, .bool x.f3, .slice B4 x.f4.length d4] 40))) :=
        ⟨below_then HB.out HB.out.size hB2, blk_below (blk_below HB3.out HB.out) hB2, blk_below (blk_new wj _) (below_alloc (Below.refl _ _) _), blk_below HO.out hB2⟩
      have HD : Aside0 (Does 55 w.heap.size wj.heap.size (w.heap.size + 1) (fun b W => Caps w.heap.size wj.heap.size (w.heap.size + 1) #[.slice A0 vs.length c0, .slice A1 ar.length c1, .slice (some ad) fs.length c2] (k : Int) b W) (fun b u => b && countU vs ar fs (k : Int) u) (fun _ u => rightU vs ar fs (k : Int) u = true) W1) :=
        ⟨{ eg := eg55, call := fun s u W hu hB hS => counted_lit HP.out HL.out (by rw [HZ1.out]; exact Nat.le_refl _) (k : Int) s u W (fun hk => rightU_four hu hk) hB hS, stays := fun s W W' h hb => h.below hb }⟩
      clear hC1 hC2 hC4 y0 y1 y2 y3 y4 hbk hB2
      go_wp2_with (fail)
      refine (stmts_calls HD.out _ x.f4 B4 d4 bk _ (Nat.le_refl _) HC4.out m4 HS2.out (fun pre u post e => HOK.out u (by rw [e]; simp))).mono ?_
      rintro e w10 ⟨rfl, hB10, hS10, hK10⟩
      rw [foldl_and] at hS10
      have HO2 : Aside0 (w10.heap[w.heap.size + 1]? = some (.cells #[.bool (upTo (fun f i => (usesS f.f4).all (countU vs ar fs i)) fs (k + 1))] 4 (0, 0))) := ⟨by rw [HUP.out, ← HBK.out]; exact hS10.2.2⟩
      have HB10 := Aside0.mk hB10
      clear hB10 hS10 hK10 HS2 HD HO HB x0 x1 x2 x3 x4 HOK
      go_wp2_with (fail)
      go_roundw
      case rel => exact ⟨k + 1, hlt, by go_num, HO2, HB10⟩
      case measure => simp [intOf]; omega
    · obtain rfl : k = fs.length := by omega
      obtain ⟨bk, hbk⟩ : ∃ bk, bk = upTo (fun f i => (usesS f.f4).all (countU vs ar fs i)) fs fs.length := ⟨_, rfl⟩
      rw [← hbk] at HO
      have HE : Aside0 (np = (bk && lastP fs)) := ⟨by rw [HNP.out, hbk, upTo_all]; rfl⟩
      have zo : wj.cell? ⟨w.heap.size + 1, 0, none⟩ = some (.bool bk) := cell_of_one HO.out
      have zp : wj.cell? ⟨w.heap.size, 2, none⟩ = some (.slice A2 fs.length c2) := (blk_cell (blk_below HB3.out HB.out) 2).trans rfl
      obtain ⟨m, hm⟩ : ∃ m : Nat, fs.length = m + 1 := ⟨fs.length - 1, by omega⟩
      obtain ⟨ad, B1, d1, B2, d2, B4, d4, rfl, x0, x1, x2, x3, x4, m1, hC1, m2, hC2, m4, hC4⟩ := at_T40 (Kd.C_below HP.out.r2 HB.out) (m : Int) (by omega) (by omega)
      have hlast : rd_T40 fs ((fs.length : Int) - 1) = rd_T40 fs (m : Int) := by congr 1; omega
      have HLA : Aside0 (lastP fs = (decide ((rd_T40 fs (m : Int)).f0 = mainS) && ((rd_T40 fs (m : Int)).f1.length == 0) && !(rd_T40 fs (m : Int)).f3)) := ⟨by unfold lastP; rw [hlast]⟩
      have HEND := Aside0.mk (below_then HBw.out HBw.out.size (below_alloc HB.out (.cells #[.string (rd_T40 fs (m : Int)).f0, .slice B1 (rd_T40 fs (m : Int)).f1.length d1, .slice B2 (rd_T40 fs (m : Int)).f2.length d2, .bool (rd_T40 fs (m : Int)).f3, .slice B4 (rd_T40 fs (m : Int)).f4.length d4] 40)))
      rw [Int.toNat_natCast] at x0 x1 x2 x3 x4
      have hwr : wrap64 ((fs.length : Int) - 1) = (m : Int) := by unfold wrap64; omega
      have hml : (m : Int) < (fs.length : Int) := by omega
      have hsub : (fs.length : Int) - 1 = (m : Int) := by omega
      have HM := Aside0.mk hm
      have hlo := blk_lt HO.out
      have hlo2 := blk_lt (blk_below HB3.out HB.out)
      clear hbk HO hlast hC1 hC2 hC4 hm
      generalize rd_T40 fs (m : Int) = x at *
      go_wp2_with (fail)
      all_goals
        have e := HE.out
        rw [HLA.out, main_dec] at e
        go_ret
        refine ⟨?_, below_then HBw.out HBw.out.size (below_alloc HB.out _)⟩
        rw [e]
        simp [*]
set_option maxHeartbeats 2000000 in
set_option maxRecDepth 100000 in
theorem check_calls (A0 : Option Addr) (c0 : Nat) (vs : List ByteArray) (A1 : Option Addr) (c1 : Nat) (ar : List S68) (A2 : Option Addr) (c2 : Nat) (fs : List S40) (w : World) (P : Prg A0 c0 vs A1 c1 ar A2 c2 fs w) (hL : Lens vs ar fs) (hf : 0 < fs.length) :
    Calls Try.prog 14 #[.agg #[.slice A0 vs.length c0, .slice A1 ar.length c1, .slice A2 fs.length c2]] w fun e w' => e = .returned (.int .i64 (checkP vs ar fs)) ∧ Below w.heap.size w w' := by
  have HL := Aside0.mk hL
  have hB1 := below_alloc (Below.refl w.heap.size w) (.cells #[.slice A0 vs.length c0, .slice A1 ar.length c1, .slice A2 fs.length c2] 26)
  have HP := Aside0.mk (P.below hB1)
  have HB1 := Aside0.mk hB1
  have hb := Aside0.mk (blk_new w (.cells #[.slice A0 vs.length c0, .slice A1 ar.length c1, .slice A2 fs.length c2] 26))
  obtain ⟨cp, hcp⟩ : ∃ cp, cp = checkP vs ar fs := ⟨_, rfl⟩
  rw [← hcp]
  have HCP := Aside0.mk hcp
  clear P hL hB1 hcp
  cases hN : namedP vs ar fs with
  | false =>
    obtain rfl : cp = 4 := by rw [HCP.out]; unfold checkP; rw [hN]; rfl
    have HN := Aside0.mk hN
    clear hN
    go_enter Try.func14, Try.ntmps14
    go_wp2_with (fail)
    refine (named_calls A0 c0 vs A1 c1 ar A2 c2 fs _ HP.out HL.out).mono ?_
    rintro e w2 ⟨rfl, hB2⟩
    rw [HN.out]
    have HB2 := Aside0.mk (below_then HB1.out HB1.out.size hB2)
    clear hB2
    go_wp2_with (fail)
    go_ret
    exact ⟨rfl, HB2.out⟩
  | true =>
    have HN := Aside0.mk hN
    clear hN
    cases hC : countedP vs ar fs with
    | false =>
      obtain rfl : cp = 1 := by rw [HCP.out]; unfold checkP; rw [HN.out, hC]; rfl
      have HC := Aside0.mk hC
      clear hC
      go_enter Try.func14, Try.ntmps14
      go_wp2_with (fail)
      refine (named_calls A0 c0 vs A1 c1 ar A2 c2 fs _ HP.out HL.out).mono ?_
      rintro e w2 ⟨rfl, hB2⟩
      rw [HN.out]
      have HB2 := Aside0.mk (below_then HB1.out HB1.out.size hB2)
      have HP2 := Aside0.mk (HP.out.below hB2)
      have hb2 := blk_below hb.out hB2
      have z0 : w2.cell? ⟨w.heap.size, 0, none⟩ = some (.slice A0 vs.length c0) := (blk_cell hb2 0).trans rfl
      have z1 : w2.cell? ⟨w.heap.size, 1, none⟩ = some (.slice A1 ar.length c1) := (blk_cell hb2 1).trans rfl
      have z2 : w2.cell? ⟨w.heap.size, 2, none⟩ = some (.slice A2 fs.length c2) := (blk_cell hb2 2).trans rfl
      clear hB2 hb2
      go_wp2_with (fail)
      refine (counted_calls A0 c0 vs A1 c1 ar A2 c2 fs _ HP2.out HL.out hf HN.out).mono ?_
      rintro e w3 ⟨rfl, hB3⟩
      rw [HC.out]
      have HB3 := Aside0.mk (below_then HB2.out HB2.out.size hB3)
      clear hB3 z0 z1 z2
      go_wp2_with (fail)
      go_ret
      exact ⟨rfl, HB3.out⟩
    | true =>
      obtain rfl : cp = 0 := by rw [HCP.out]; unfold checkP; rw [HN.out, hC]; rfl
      have HC := Aside0.mk hC
      clear hC
      go_enter Try.func14, Try.ntmps14
      go_wp2_with (fail)
      refine (named_calls A0 c0 vs A1 c1 ar A2 c2 fs _ HP.out HL.out).mono ?_
      rintro e w2 ⟨rfl, hB2⟩
      rw [HN.out]
      have HB2 := Aside0.mk (below_then HB1.out HB1.out.size hB2)
      have HP2 := Aside0.mk (HP.out.below hB2)
      have hb2 := blk_below hb.out hB2
      have z0 : w2.cell? ⟨w.heap.size, 0, none⟩ = some (.slice A0 vs.length c0) := (blk_cell hb2 0).trans rfl
      have z1 : w2.cell? ⟨w.heap.size, 1, none⟩ = some (.slice A1 ar.length c1) := (blk_cell hb2 1).trans rfl
      have z2 : w2.cell? ⟨w.heap.size, 2, none⟩ = some (.slice A2 fs.length c2) := (blk_cell hb2 2).trans rfl
      clear hB2 hb2
      go_wp2_with (fail)
      refine (counted_calls A0 c0 vs A1 c1 ar A2 c2 fs _ HP2.out HL.out hf HN.out).mono ?_
      rintro e w3 ⟨rfl, hB3⟩
      rw [HC.out]
      have HB3 := Aside0.mk (below_then HB2.out HB2.out.size hB3)
      clear hB3 z0 z1 z2
      go_wp2_with (fail)
      go_ret
      exact ⟨rfl, HB3.out⟩
end Go.Proofs.Ytdpncghnlkgkdaa.H
