/- The literal of scope.Calls, walked: a call's number is put behind the row of its function. Conditions: at most 1000 names a function; the row is not too long.
   slices.Sort and slices.Compact of a row of numbers of the call's own. Condition: of at most 1000000 numbers.
   scope.Calls, walked: which functions each calls, in order, each once. Conditions: at most 1000 of anything, at least one function, at most 1000000 uses in each.
   scope.Check, Find, Calls in the print's form. Conditions: at most 1000 of anything, at least one function. -/
import Derived.Test.YtdpncghnlkgkdaaMC
import Derived.Test.YtdpncghnlkgkdaaMA
set_option linter.unusedVariables false
set_option linter.unusedSimpArgs false
namespace Go.Proofs.Ytdpncghnlkgkdaa.H
open Go.RowKit Go.Proofs.YtdpncghnlkgkdaaW.PrintWords Go.Proofs.YtdpncghnlkgkdaaW.PrintLast Go.Proofs.YtdpncghnlkgkdaaW.PrintMore Go.Proofs.Ytdpncghnlkgkdaa.G

abbrev KI : Kd (List Int) := Kd.slice 3 (Kd.int .i64)
/-- A row of rows, row i of it lent. -/
theorem S_row {W : World} {base g n cp : Nat} {ok : Nat → Prop} {rows : List (List Int)} {row : List Int} {i : Nat} (h : Kd.S KI 51 W base ok (.slice (some ⟨g, 0, none⟩) n cp) rows) (hi : i < n) (hrow : rows.getD i [] = row) :
    ∃ (oki : Nat → Prop) (A0 : Option Addr) (c0 : Nat), W.cell? ⟨g, i, none⟩ = some (.slice A0 row.length c0) ∧ W.frozen? ⟨g, i, none⟩ = false ∧ Kd.R (Kd.int .i64) 3 W base oki (.slice A0 row.length c0) row ∧ Kd.H KI 51 W base ok (.slice (some ⟨g, 0, none⟩) n cp) rows (i : Int) oki [.slice A0 row.length c0] ∧ (∀ k, oki k → ok k ∧ k ≠ g) := by
  obtain ⟨oki, c, hcl, hM, hcc, hfr, hoki, hH⟩ := Kd.S_elem h [] (i : Int) (by omega) (by omega)
  rw [Int.toNat_natCast] at hM hcc hfr
  rw [hrow] at hM
  obtain ⟨ve, rfl, ge⟩ := hM
  obtain ⟨A0, c0, rfl⟩ := Kd.R_slice ge
  have h1 := hcc 0 _ rfl
  have h2 := hfr 0
  rw [Nat.add_zero, show KI.sz = 1 from rfl, Nat.mul_one] at h1 h2
  exact ⟨oki, A0, c0, h1, h2, ge, hH, hoki⟩
/-- What the literal has captured: the program, the function's number, the rows, of which row i is l. -/
def CapsO (bp bi bo g n cp base : Nat) (cs : Array Value) (i : Nat) (rows0 : List (List Int)) (l : List Int) (W : World) : Prop :=
  W.heap[bp]? = some (.cells cs 26 (0, 0)) ∧ W.heap[bi]? = some (.cells #[.int .i64 (i : Int)] 3 (0, 0)) ∧ W.heap[bo]? = some (.cells #[.slice (some ⟨g, 0, none⟩) n cp] 48 (0, 0)) ∧ Kd.S KI 51 W base (fun k => k ≠ bi) (.slice (some ⟨g, 0, none⟩) n cp) (rows0.set i l)
theorem CapsO.below {bp bi bo g n cp base : Nat} {cs : Array Value} {i : Nat} {rows0 : List (List Int)} {l : List Int} {W W' : World} (h : CapsO bp bi bo g n cp base cs i rows0 l W) (hb : Below W.heap.size W W') : CapsO bp bi bo g n cp base cs i rows0 l W' := ⟨blk_below h.1 hb, blk_below h.2.1 hb, blk_below h.2.2.1 hb, Kd.S_below h.2.2.2 hb⟩
theorem R_ty {α : Type} {d : Kd α} {e base : Nat} {ok : Nat → Prop} {w : World} {v : Value} {xs : List α} (h : d.R e w base ok v xs) : ∀ q, v.ownBlock = some q → ∃ cells, w.heap[q]? = some (.cells cells e (0, 0)) := by
  intro q hq
  obtain ⟨inner, ho⟩ := Kd.R_own h
  exact own_typed ho q hq
theorem Keep.grown {W W' : World} {row : Option Nat} (hg : W.grownBy W' row) (h : ∀ q, row = some q → ∃ cells t, W.heap[q]? = some (.cells cells t (0, 0)) ∧ t ≠ 37 ∧ t ≠ 33) : Keep W W' := fun b cs t fr ht hb => by
  have hlt : b < W.heap.size := by
    rcases Nat.lt_or_ge b W.heap.size with h1 | h1
    · exact h1
    · rw [Array.getElem?_eq_none h1] at hb; cases hb
  rw [hg.block b hlt (fun e => by
    obtain ⟨cells, t', h1, h2, h3⟩ := h b e.symm
    rw [hb] at h1
    injection h1 with h1
    injection h1 with _ h1 _
    subst h1
    rcases ht with h | h
    · exact h2 h
    · exact h3 h)]
  exact hb
theorem blk_grown {W W' : World} {row : Option Nat} {b : Nat} {cs : Array Value} {t : TypeId} {fr : Nat × Nat} (hb : W.heap[b]? = some (.cells cs t fr)) (hg : W.grownBy W' row) (hne : some b ≠ row) : W'.heap[b]? = some (.cells cs t fr) := by
  have hlt : b < W.heap.size := by
    rcases Nat.lt_or_ge b W.heap.size with h1 | h1
    · exact h1
    · rw [Array.getElem?_eq_none h1] at hb; cases hb
  rw [hg.block b hlt hne]
  exact hb
def stepC (vs : List ByteArray) (ar : List S68) (fs : List S40) (i : Nat) (l : List Int) (u : U) : List Int :=
  if u.kind = 4 ∧ (findP vs ar fs (i : Int) u.name).1 = 4 then l ++ [(findP vs ar fs (i : Int) u.name).2] else l

set_option maxHeartbeats 8000000 in
set_option maxRecDepth 100000 in
theorem calls_lit {A0 : Option Addr} {c0 : Nat} {vs : List ByteArray} {A1 : Option Addr} {c1 : Nat} {ar : List S68} {A2 : Option Addr} {c2 : Nat} {fs : List S40} {w0 : World} (P : Prg A0 c0 vs A1 c1 ar A2 c2 fs w0) (hL : Lens vs ar fs) {bp bi bo g : Nat} {i n cp : Nat} (hi : i < n) (hn : n ≤ 1000) (rows0 : List (List Int)) (hrl : rows0.length = n) (l : List Int) (hll : l.length ≤ 1000000) (u : U) (W : World) (hB : Below w0.heap.size w0 W) (hS : CapsO bp bi bo g n cp w0.heap.size #[.slice A0 vs.length c0, .slice A1 ar.length c1, .slice A2 fs.length c2] i rows0 l W) :
    Calls Try.prog 40 #[.agg #[.string u.name, .int .i64 u.kind, .int .i64 u.args], .pointer (some ⟨bp, 0, none⟩), .pointer (some ⟨bi, 0, none⟩), .pointer (some ⟨bo, 0, none⟩)] W fun e W' => e = .returned (.tuple #[]) ∧ Below w0.heap.size w0 W' ∧ CapsO bp bi bo g n cp w0.heap.size #[.slice A0 vs.length c0, .slice A1 ar.length c1, .slice A2 fs.length c2] i rows0 (stepC vs ar fs i l u) W' ∧ Keep W W' := by
  have HL := Aside0.mk (hL.own (i : Int))
  have HP := Aside0.mk P
  have HB := Aside0.mk hB
  have HS := Aside0.mk hS
  have hp0 : W.cell? ⟨bp, 0, none⟩ = some (.slice A0 vs.length c0) := (blk_cell hS.1 0).trans rfl
  have hp1 : W.cell? ⟨bp, 1, none⟩ = some (.slice A1 ar.length c1) := (blk_cell hS.1 1).trans rfl
  have hp2 : W.cell? ⟨bp, 2, none⟩ = some (.slice A2 fs.length c2) := (blk_cell hS.1 2).trans rfl
  have hi0 : W.cell? ⟨bi, 0, none⟩ = some (.int .i64 (i : Int)) := (blk_cell hS.2.1 0).trans rfl
  have g1 := blk_lt hS.1
  have g2 := blk_lt hS.2.1
  have HB1 := Aside0.mk (below_alloc (Below.refl W.heap.size W) (.cells #[.string u.name, .int .i64 u.kind, .int .i64 u.args] 74))
  obtain ⟨fp, hfp⟩ : ∃ fp, fp = findP vs ar fs (i : Int) u.name := ⟨_, rfl⟩
  obtain ⟨res, hres⟩ : ∃ res, res = stepC vs ar fs i l u := ⟨_, rfl⟩
  rw [← hres]
  have HRES : Aside0 (res = if u.kind = 4 ∧ fp.1 = 4 then l ++ [fp.2] else l) := ⟨by rw [hres, hfp]; rfl⟩
  have HFP := Aside0.mk hfp
  clear P hL hB hS hfp hres
  obtain ⟨un, uk, ua⟩ := u
  simp only at HRES HFP HB1 ⊢
  by_cases hk4 : uk = 4
  · subst hk4
    simp only [true_and] at HRES
    go_enter Try.func40, Try.ntmps40
    go_wp2_with (fail)
    refine (find_calls A0 c0 vs A1 c1 ar A2 c2 fs (i : Int) un _ (Kd.C_below HP.out.r0 (below_then HB.out HB.out.size HB1.out)) (Kd.C_below HP.out.r1 (below_then HB.out HB.out.size HB1.out)) (Kd.C_below HP.out.r2 (below_then HB.out HB.out.size HB1.out)) HL.out).mono ?_
    rintro e W5 ⟨rfl, hB5⟩
    rw [← HFP.out]
    obtain ⟨kk, at_⟩ := fp
    simp only at HRES ⊢
    have HB5 := Aside0.mk (below_then HB1.out HB1.out.size hB5)
    have HS5 := Aside0.mk (HS.out.below HB5.out)
    have HBw := Aside0.mk (below_then HB.out HB.out.size HB5.out)
    have HK5 := Aside0.mk (Keep.below HB5.out)
    clear hB5 hp0 hp1 hp2 hi0 HB HS HB1 HFP HP HL HB5
    by_cases h4 : kk = 4
    · subst h4
      rw [if_pos rfl] at HRES
      obtain ⟨oki, R0, d0, xr, fr, hRr, hH, hoki⟩ := S_row HS5.out.2.2.2 hi (show (rows0.set i l).getD i [] = l by simp [hrl, hi])
      have zo : W5.cell? ⟨bo, 0, none⟩ = some (.slice (some ⟨g, 0, none⟩) n cp) := (blk_cell HS5.out.2.2.1 0).trans rfl
      have zi : W5.cell? ⟨bi, 0, none⟩ = some (.int .i64 (i : Int)) := (blk_cell HS5.out.2.1 0).trans rfl
      have hin : (i : Int) < (n : Int) := by omega
      have HRr := Aside0.mk hRr
      have HH := Aside0.mk hH
      have HO := Aside0.mk hoki
      clear hRr hH hoki
      go_wp2_with (fail)
      refine start_ (n := 11) (S := fun w' => w'.cell? ⟨bo, 0, none⟩ = some (.slice (some ⟨g, 0, none⟩) n cp) ∧ w'.cell? ⟨bi, 0, none⟩ = some (.int .i64 (i : Int)) ∧ w'.cell? ⟨g, i, none⟩ = some (.slice R0 l.length d0)) (ds := [10]) #[false, false, false, false, false, false, false, false, false, false, false] (by kernel_rfl) rfl rfl (show _ from ⟨zo, zi, xr⟩) (fun hHeld => ?_)
      have HBw := Aside0.mk (below_drew HBw.out)
      have HS5 := Aside0.mk (HS5.out.below (below_drew (Below.refl _ _)))
      have HK5 := Aside0.mk (HK5.out.trans (Keep.below (below_drew (Below.refl _ _))))
      have HRr := Aside0.mk (Kd.R_drew HRr.out)
      have HH := Aside0.mk (Kd.H_drew HH.out)
      have HF := Aside0.mk hHeld
      clear zo zi xr fr
      generalize W5.drew = W6 at *
      refine take_ (i := 0) (N := some 20) (v := ?_) (a' := ?_) #[true, false, false, false, false, false, false, false, false, false, false] rfl rfl (by kernel_rfl) (fun _ _ _ h => h) (Or.inl ⟨by rfl, ?_⟩) hHeld ?_ ?_
      rotate_left
      · rintro w' ⟨s0, s1, s2⟩
        go_simp
        with_reducible rfl
      rotate_left
      · simp only [Act.put, List.setIfInBounds_toArray, List.set_cons_zero, List.set_cons_succ, i64_w, i32_w]
        rfl
      refine take_ (i := 1) (N := some 21) (v := ?_) (a' := ?_) #[true, true, false, false, false, false, false, false, false, false, false] rfl rfl (by kernel_rfl) (fun _ _ _ h => h) (Or.inl ⟨by rfl, ?_⟩) hHeld ?_ ?_
      rotate_left
      · rintro w' ⟨s0, s1, s2⟩
        go_simp
        with_reducible rfl
      rotate_left
      · simp only [Act.put, List.setIfInBounds_toArray, List.set_cons_zero, List.set_cons_succ, i64_w, i32_w]
        rfl
      refine take_ (i := 2) (N := some 22) (v := ?_) (a' := ?_) #[true, true, true, false, false, false, false, false, false, false, false] rfl rfl (by kernel_rfl) (fun _ _ _ h => h) (Or.inl ⟨by rfl, ?_⟩) hHeld ?_ ?_
      rotate_left
      · rintro w' ⟨s0, s1, s2⟩
        go_simp
        with_reducible rfl
      rotate_left
      · simp only [Act.put, List.setIfInBounds_toArray, List.set_cons_zero, List.set_cons_succ, i64_w, i32_w]
        rfl
      refine take_ (i := 3) (N := some 23) (v := ?_) (a' := ?_) #[true, true, true, true, false, false, false, false, false, false, false] rfl rfl (by kernel_rfl) (fun _ _ _ h => h) (Or.inl ⟨by rfl, ?_⟩) hHeld ?_ ?_
      rotate_left
      · rintro w' ⟨s0, s1, s2⟩
        go_simp
        with_reducible rfl
      rotate_left
      · simp only [Act.put, List.setIfInBounds_toArray, List.set_cons_zero, List.set_cons_succ, i64_w, i32_w]
        rfl
      refine pure_ (i := 4) (N := some 24) (v := ?_) (a' := ?_) #[true, true, true, true, true, false, false, false, false, false, false] rfl rfl (by kernel_rfl) (fun _ _ _ h => h) (Or.inl ⟨by rfl, ?_⟩) ?_ ?_
      rotate_left
      · intro w'
        go_simp
        with_reducible rfl
      rotate_left
      · simp only [Act.put, List.setIfInBounds_toArray, List.set_cons_zero, List.set_cons_succ, i64_w, i32_w]
        rfl
      refine take_ (i := 5) (N := some 25) (v := ?_) (a' := ?_) #[true, true, true, true, true, true, false, false, false, false, false] rfl rfl (by kernel_rfl) (fun _ _ _ h => h) (Or.inl ⟨by rfl, ?_⟩) hHeld ?_ ?_
      rotate_left
      · rintro w' ⟨s0, s1, s2⟩
        go_simp
        with_reducible rfl
      rotate_left
      · simp only [Act.put, List.setIfInBounds_toArray, List.set_cons_zero, List.set_cons_succ, i64_w, i32_w]
        rfl
      refine pure_ (i := 6) (N := some 26) (v := ?_) (a' := ?_) #[true, true, true, true, true, true, true, false, false, false, false] rfl rfl (by kernel_rfl) (fun _ _ _ h => h) (Or.inl ⟨by rfl, ?_⟩) ?_ ?_
      rotate_left
      · intro w'
        go_simp
        with_reducible rfl
      rotate_left
      · simp only [Act.put, List.setIfInBounds_toArray, List.set_cons_zero, List.set_cons_succ, i64_w, i32_w]
        rfl
      refine one_ (i := 7) (N := some 27) #[true, true, true, true, true, true, true, true, false, false, false] rfl rfl (by kernel_rfl) (by decide) (fun K' hK => ?_)
      refine value_ (v := .slice (some ⟨W6.heap.size, 0, none⟩) 1 1) (w1 := W6.alloc (.cells #[.int .i64 at_] 3)) (by rfl) rfl (by go_simp) ?_
      refine hK.out _ _ ⟨pw_cell_below (below_alloc (Below.refl W6.heap.size W6) _) HF.out.1, pw_cell_below (below_alloc (Below.refl W6.heap.size W6) _) HF.out.2.1, pw_cell_below (below_alloc (Below.refl W6.heap.size W6) _) HF.out.2.2⟩ (fun hHeld => ?_)
      clear hK K'
      refine norm_ (a' := ?_) ?_ ?_
      rotate_left
      · show Act.put _ (some 27) _ = _
        simp only [Act.put, List.setIfInBounds_toArray, List.set_cons_zero, List.set_cons_succ, i64_w, i32_w]
        rfl
      refine one_ (i := 8) (N := some 28) #[true, true, true, true, true, true, true, true, true, false, false] rfl rfl (by kernel_rfl) (by decide) (fun K' hK => ?_)
      refine Kd.R_append_step (Kd.int .i64) (w0 := w0) w0.heap.size (by rfl) (.tmp 25) (.tmp 27) 51 3 (.int .i64 0) 8 rfl Try.underlying51 info3 rfl (by decide) (by omega) (.slice R0 l.length d0) l at_ [.int .i64 at_] (fun q => oki q ∨ q ≠ bi ∧ W6.heap.size ≤ q) (fun _ => False) rfl rfl rfl (fun _ h => h.elim) (fun q hq => .inr ⟨by have := blk_lt HS5.out.2.1; omega, hq⟩) (Kd.R_mono HRr.out (fun _ h => .inl h)) HBw.out HBw.out.size (by omega) (fun v1 w5 ho hb5 hg5 hat5 => ?_)
      obtain ⟨Ao, co, rfl⟩ := Kd.R_slice ho
      have hbi5 := blk_grown HS5.out.2.1 hg5 (fun e => (HO.out bi (HRr.out.1 bi e.symm)).1 rfl)
      have hbo5 := blk_grown HS5.out.2.2.1 hg5 (fun e => by obtain ⟨cs_, h⟩ := R_ty HRr.out bo e.symm; rw [HS5.out.2.2.1] at h; injection h with h; injection h with _ h _; revert h; decide)
      have hbp5 := blk_grown HS5.out.1 hg5 (fun e => by obtain ⟨cs_, h⟩ := R_ty HRr.out bp e.symm; rw [HS5.out.1] at h; injection h with h; injection h with _ h _; revert h; decide)
      have HK5b := Aside0.mk (HK5.out.trans (Keep.grown hg5 (fun q e => by obtain ⟨cs_, h⟩ := R_ty HRr.out q e; exact ⟨cs_, 3, h, by decide, by decide⟩)))
      have HH5 := Aside0.mk (Kd.H_grown (Kd.H_widen HH.out) hg5 (fun q e => .inl (HRr.out.1 q e)))
      have HB5 := Aside0.mk hb5
      have HO5 := Aside0.mk ho
      obtain ⟨hx5, hf5⟩ := Kd.H_at HH5.out (by omega) hin
      replace hx5 := hx5 0 _ rfl
      replace hf5 := hf5 0
      rw [Int.toNat_natCast, Nat.add_zero, show KI.sz = 1 from rfl, Nat.mul_one] at hx5 hf5
      refine hK.out _ _ ⟨(blk_cell hbo5 0).trans rfl, (blk_cell hbi5 0).trans rfl, hx5⟩ (fun hHeld => ?_)
      have HBI := Aside0.mk hbi5
      have HBO := Aside0.mk hbo5
      have HBP := Aside0.mk hbp5
      have hgt : ∃ cells, w5.heap[g]? = some (.cells cells 51 (0, 0)) := by
        obtain ⟨rws, _, hraw, _⟩ := Kd.H_raw HH5.out (by omega) hin
        exact R_ty hraw g rfl
      have HGT := Aside0.mk hgt
      clear hK K' ho hb5 hg5 hat5 HRr HH HBw HF hbi5 hbo5 hbp5 HK5 hgt
      refine norm_ (a' := ?_) ?_ ?_
      rotate_left
      · show Act.put _ (some 28) _ = _
        simp only [Act.put, List.setIfInBounds_toArray, List.set_cons_zero, List.set_cons_succ, i64_w, i32_w]
        rfl
      refine pure_ (i := 9) (N := some 29) (v := ?_) (a' := ?_) #[true, true, true, true, true, true, true, true, true, true, false] rfl rfl (by kernel_rfl) (fun _ _ _ h => h) (Or.inl ⟨by rfl, ?_⟩) ?_ ?_
      rotate_left
      · intro w'
        go_simp
        with_reducible rfl
      rotate_left
      · simp only [Act.put, List.setIfInBounds_toArray, List.set_cons_zero, List.set_cons_succ, i64_w, i32_w]
        rfl
      refine last_ (i := 10) (N := none) #[true, true, true, true, true, true, true, true, true, true, true] rfl rfl (by kernel_rfl) (by decide) (fun K' hK => ?_)
      refine skip_ (w1 := w5.setCell ⟨g, i, none⟩ (.slice Ao (l ++ [at_]).length co)) (by rfl) rfl (by go_simp) ?_
      refine hK.out _ _ ?_
      clear hK K'
      refine done_ (by kernel_rfl) ?_
      obtain rfl := HRES.out
      obtain ⟨gc, hgc⟩ := HGT.out
      have hP5 := Kd.S_seg0 HH5.out (by omega) hin (seg := [.slice Ao (l ++ [at_]).length co]) (j := 0) (show 1 ≤ 1 from by decide) (x' := l ++ [at_]) (Kd.M_row HO5.out) (fun _ hk => by rcases hk with h | h; exact .inl h; exact .inr h)
      rw [Int.toNat_natCast, show KI.sz = 1 from rfl, Nat.mul_one, Nat.add_zero, List.set_set] at hP5
      have HS6 := Aside0.mk (show Kd.S KI 51 (w5.setCell ⟨g, i, none⟩ (.slice Ao (l ++ [at_]).length co)) w0.heap.size (fun k => k ≠ bi) (.slice (some ⟨g, 0, none⟩) n cp) (rows0.set i (l ++ [at_])) from hP5.1)
      have hgb : w0.heap.size ≤ g := Kd.S_base HS6.out g rfl
      have HEND := Aside0.mk (HB5.out.setCell (p := ⟨g, i, none⟩) hgb (.slice Ao (l ++ [at_]).length co))
      have HK6 := Aside0.mk (HK5b.out.trans (Keep.set hgc (by decide) (by decide) ⟨g, i, none⟩ rfl (.slice Ao (l ++ [at_]).length co)))
      have HC6 : Aside0 (CapsO bp bi bo g n cp w0.heap.size #[.slice A0 vs.length c0, .slice A1 ar.length c1, .slice A2 fs.length c2] i rows0 (l ++ [at_]) (w5.setCell ⟨g, i, none⟩ (.slice Ao (l ++ [at_]).length co))) := ⟨by rw [Below.heap_setCell w5 _ _ _ (show bp ≠ g from ne_type HBP.out hgc (by decide))]; exact HBP.out, by rw [Below.heap_setCell w5 _ _ _ (show bi ≠ g from ne_type HBI.out hgc (by decide))]; exact HBI.out, by rw [Below.heap_setCell w5 _ _ _ (show bo ≠ g from ne_type HBO.out hgc (by decide))]; exact HBO.out, HS6.out⟩
      clear hP5 HS6 hx5 hf5 hgc HH5 HO5 HB5 HK5b HBI HBO HBP HGT
      simp only [List.length_append, List.length_singleton] at HEND HK6 HC6
      go_wp2_with (fail)
      first | go_end0 | refine bodyPost_ret (results_none rfl _ _ _) rfl ?_
      exact ⟨rfl, HEND.out, HC6.out, HK6.out⟩
    · have t4 : (kk == 4) = false := by simpa using h4
      rw [if_neg h4] at HRES
      obtain rfl := HRES.out
      clear h4
      go_wp2_with (fail)
      first | go_end0 | refine bodyPost_ret (results_none rfl _ _ _) rfl ?_
      exact ⟨rfl, HBw.out, HS5.out, HK5.out⟩
  · have s4 : (uk == 4) = false := by simpa using hk4
    have s5 : (uk != 4) = true := by simpa using hk4
    rw [if_neg (fun h => hk4 h.1)] at HRES
    obtain rfl := HRES.out
    have HBw := Aside0.mk (below_then HB.out HB.out.size HB1.out)
    have HS5 := Aside0.mk (HS.out.below HB1.out)
    have HK5 := Aside0.mk (Keep.below HB1.out)
    clear hk4
    go_enter Try.func40, Try.ntmps40
    go_wp2_with (fail)
    first | go_end0 | refine bodyPost_ret (results_none rfl _ _ _) rfl ?_
    exact ⟨rfl, HBw.out, HS5.out, HK5.out⟩
end Go.Proofs.Ytdpncghnlkgkdaa.H
set_option linter.unusedVariables false
set_option linter.unusedSimpArgs false
namespace Go.Proofs.Ytdpncghnlkgkdaa.H
open Go.Sort Go.RowKit Go.Proofs.YtdpncghnlkgkdaaW.PrintWords Go.Proofs.YtdpncghnlkgkdaaW.PrintLast Go.Proofs.YtdpncghnlkgkdaaW.PrintMore Go.Proofs.Ytdpncghnlkgkdaa.G

def sortP (l : List Int) : List Int := l.mergeSort fun x y => decide (x ≤ y)
theorem sortP_len (l : List Int) : (sortP l).length = l.length := List.length_mergeSort _
theorem grown_refl (W : World) (row : Option Nat) : W.grownBy W row := ⟨rfl, rfl, rfl, Nat.le_refl _, fun _ _ _ => rfl⟩
theorem encI_map (l : List Int) : encs (Value.int .i64) l = l.map (Value.int .i64) := rfl
theorem sort_row {W : World} {base : Nat} {ok : Nat → Prop} {A : Option Addr} {c : Nat} {l : List Int} (h : Kd.R (Kd.int .i64) 3 W base ok (.slice A l.length c) l) (hl : l.length ≤ 1000000) :
    Calls Try.prog 41 #[.slice A l.length c] W fun e W' => e = .returned (.tuple #[]) ∧ W.grownBy W' (Value.slice A l.length c).ownBlock ∧ Kd.R (Kd.int .i64) 3 W' base ok (.slice A l.length c) (sortP l) := by
  have h0 := h.1
  obtain ⟨h1, h2 | ⟨g, cap, cur, hv, hbg, hcur, hle, hcm, hsz, htk⟩⟩ := Kd.own_of_R h
  · have hl0 : l = [] := List.eq_nil_of_length_eq_zero h2.2
    subst hl0
    refine (sortI_none A c W).mono ?_
    rintro e W' ⟨rfl, rfl⟩
    exact ⟨rfl, grown_refl _ _, by rw [show sortP [] = [] by simp [sortP]]; exact h⟩
  · injection hv with hv1 hv2 hv3
    subst hv1 hv3
    have hH := holds_of_blockI (ss := l) hcur (by simpa [encs] using htk)
    have hlt : g < W.heap.size := by
      rcases Nat.lt_or_ge g W.heap.size with h | h
      · exact h
      · rw [Array.getElem?_eq_none h] at hcur; cases hcur
    refine (sortI g 0 c l W hH hlt (by omega)).mono ?_
    rintro e W' ⟨rfl, n, os, hw⟩
    have ho : W'.ownsRow base 3 1 (.slice (some ⟨g, 0, none⟩) l.length c) l.length ((sortP l).map (Value.int .i64)) := by
      rw [hw]
      exact ownsRow_sortedI (ts := sortP l) (sortP_len l) hbg hcur hle hcm hsz
    refine ⟨rfl, by rw [hw]; exact grownBy_sortedI _, Kd.R_of_own (by rw [sortP_len]; exact ho) h0⟩
theorem compact_row {W : World} {base : Nat} {ok : Nat → Prop} {A : Option Addr} {c : Nat} {l : List Int} (h : Kd.R (Kd.int .i64) 3 W base ok (.slice A l.length c) l) (hl : l.length ≤ 1000000) :
    Calls Try.prog 42 #[.slice A l.length c] W fun e W' => e = .returned (.slice A (Lib.compact l).length c) ∧ W.grownBy W' (Value.slice A l.length c).ownBlock ∧ Kd.R (Kd.int .i64) 3 W' base ok (.slice A (Lib.compact l).length c) (Lib.compact l) := by
  have h0 := h.1
  obtain ⟨h1, h2 | ⟨g, cap, cur, hv, hbg, hcur, hle, hcm, hsz, htk⟩⟩ := Kd.own_of_R h
  · have hl0 : l = [] := List.eq_nil_of_length_eq_zero h2.2
    subst hl0
    have hc0 : Lib.compact ([] : List Int) = [] := by
      have := compact_le ([] : List Int)
      exact List.eq_nil_of_length_eq_zero (by simpa using this)
    refine (compactI_none A c W).mono ?_
    rintro e W' ⟨rfl, rfl⟩
    rw [hc0]
    exact ⟨rfl, grown_refl _ _, h⟩
  · injection hv with hv1 hv2 hv3
    subst hv1 hv3
    have hH := holds_of_blockI (ss := l) hcur (by simpa [encs] using htk)
    refine (compactI g 0 c l W hH (by omega) hle).mono ?_
    rintro e W' ⟨rfl, q, hw⟩
    have hcl := compact_le l
    obtain ⟨ts, hts⟩ : ∃ ts : List Int, ts = Lib.compact l ++ List.replicate (l.length - (Lib.compact l).length) 0 := ⟨_, rfl⟩
    have htl : ts.length = l.length := by rw [hts, List.length_append, List.length_replicate]; omega
    have htk2 : ts.take (Lib.compact l).length = Lib.compact l := by rw [hts]; simp
    rw [← hts, grow_none (putRow _ _ _ _ _)] at hw
    have ho : W'.ownsRow base 3 1 (.slice (some ⟨g, 0, none⟩) l.length c) l.length (ts.map (Value.int .i64)) := by
      rw [hw]
      exact ownsRow_sortedI (ts := ts) htl hbg hcur hle hcm hsz
    have hR : Kd.R (Kd.int .i64) 3 W' base ok (.slice (some ⟨g, 0, none⟩) l.length c) ts := Kd.R_of_own (by rw [htl]; exact ho) h0
    have hR2 := Kd.R_take hR (m := (Lib.compact l).length) (by omega)
    rw [htk2] at hR2
    exact ⟨rfl, by rw [hw]; exact grownBy_sortedI _, hR2⟩
end Go.Proofs.Ytdpncghnlkgkdaa.H
set_option linter.unusedVariables false
set_option linter.unusedSimpArgs false
namespace Go.Proofs.Ytdpncghnlkgkdaa.H
open Go.RowKit Go.Proofs.YtdpncghnlkgkdaaW.PrintWords Go.Proofs.YtdpncghnlkgkdaaW.PrintLast Go.Proofs.YtdpncghnlkgkdaaW.PrintMore Go.Proofs.Ytdpncghnlkgkdaa.G

def rawC (vs : List ByteArray) (ar : List S68) (fs : List S40) (i : Nat) : List Int := (usesS (rd_T40 fs (i : Int)).f4).foldl (stepC vs ar fs i) []
def rowC (vs : List ByteArray) (ar : List S68) (fs : List S40) (i : Nat) : List Int := Lib.compact (sortP (rawC vs ar fs i))
def callsP (vs : List ByteArray) (ar : List S68) (fs : List S40) : List (List Int) := (List.range fs.length).map (rowC vs ar fs)
theorem foldC_len (vs : List ByteArray) (ar : List S68) (fs : List S40) (i : Nat) : ∀ (l : List U) (s : List Int), (l.foldl (stepC vs ar fs i) s).length ≤ s.length + l.length
  | [], s => by simp
  | u :: r, s => by
    rw [List.foldl_cons, List.length_cons]
    have h := foldC_len vs ar fs i r (stepC vs ar fs i s u)
    have : (stepC vs ar fs i s u).length ≤ s.length + 1 := by
      unfold stepC
      split
      · simp
      · omega
    omega
def UsesB (fs : List S40) : Prop := ∀ f ∈ fs, (usesS f.f4).length ≤ 1000000
theorem ok_pre {vs : List ByteArray} {ar : List S68} {fs : List S40} (hu : UsesB fs) {k : Nat} (hk : k < fs.length) : ∀ pre u post, usesS (rd_T40 fs (k : Int)).f4 = pre ++ u :: post → (pre.foldl (stepC vs ar fs k) []).length ≤ 1000000 := fun pre u post e => by
  have h1 := hu _ (rd40_mem (fs := fs) (f := (k : Int)) ⟨by omega, by omega⟩)
  have h2 := foldC_len vs ar fs k pre []
  rw [e, List.length_append] at h1
  simp at h2
  omega
theorem raw_len {vs : List ByteArray} {ar : List S68} {fs : List S40} (hu : UsesB fs) {k : Nat} (hk : k < fs.length) : (rawC vs ar fs k).length ≤ 1000000 := by
  have h1 := hu _ (rd40_mem (fs := fs) (f := (k : Int)) ⟨by omega, by omega⟩)
  have h2 := foldC_len vs ar fs k (usesS (rd_T40 fs (k : Int)).f4) []
  unfold rawC
  simp at h2
  omega
/-- The rows when k functions are done. -/
def doneC (vs : List ByteArray) (ar : List S68) (fs : List S40) (k : Nat) : List (List Int) := (List.range fs.length).map fun j => if j < k then rowC vs ar fs j else []
theorem doneC_len (vs : List ByteArray) (ar : List S68) (fs : List S40) (k : Nat) : (doneC vs ar fs k).length = fs.length := by simp [doneC]
theorem doneC_zero (vs : List ByteArray) (ar : List S68) (fs : List S40) : doneC vs ar fs 0 = List.replicate fs.length [] := by
  unfold doneC
  apply List.ext_getElem <;> simp
theorem doneC_self {vs : List ByteArray} {ar : List S68} {fs : List S40} {k : Nat} (hk : k < fs.length) : (doneC vs ar fs k).set k [] = doneC vs ar fs k := by
  unfold doneC
  apply List.ext_getElem
  · simp
  · intro j h1 h2
    rw [List.getElem_set]
    simp only [List.length_map, List.length_range] at h2
    split
    · next e =>
      subst e
      simp
    · rfl
theorem doneC_set {vs : List ByteArray} {ar : List S68} {fs : List S40} {k : Nat} (hk : k < fs.length) : (doneC vs ar fs k).set k (rowC vs ar fs k) = doneC vs ar fs (k + 1) := by
  unfold doneC
  apply List.ext_getElem
  · simp
  · intro j h1 h2
    rw [List.getElem_set]
    simp only [List.length_map, List.length_range] at h2
    split
    · next e =>
      subst e
      simp
    · next e =>
      simp only [List.getElem_map, List.getElem_range]
      by_cases h : j < k
      · rw [if_pos h, if_pos (by omega)]
      · rw [if_neg h, if_neg (by omega)]
theorem doneC_all (vs : List ByteArray) (ar : List S68) (fs : List S40) : doneC vs ar fs fs.length = callsP vs ar fs := by
  unfold doneC callsP
  apply List.map_congr_left
  intro j hj
  rw [if_pos (List.mem_range.1 hj)]

set_option maxHeartbeats 8000000 in
set_option maxRecDepth 100000 in
theorem calls_calls (A0 : Option Addr) (c0 : Nat) (vs : List ByteArray) (A1 : Option Addr) (c1 : Nat) (ar : List S68) (A2 : Option Addr) (c2 : Nat) (fs : List S40) (w : World) (P : Prg A0 c0 vs A1 c1 ar A2 c2 fs w) (hL : Lens vs ar fs) (hf : 0 < fs.length) (hu : UsesB fs) :
    Calls Try.prog 18 #[.agg #[.slice A0 vs.length c0, .slice A1 ar.length c1, .slice A2 fs.length c2]] w fun e w' => ∃ v, e = .returned v ∧ Kd.S KI 51 w' w.heap.size (fun _ => True) v (callsP vs ar fs) ∧ Below w.heap.size w w' := by
  have hmf : ∀ (fn : Fn) (first cap : Array Value) (w : World), (Instr.makeFunc fn first cap).run Try.prog w = .ok (.func fn first cap) w := fun _ _ _ _ => rfl
  have eg40 := enters_of Try.func40 (by kernel_rfl) rfl
  obtain ⟨W1, hW1⟩ : ∃ W1, W1 = w.alloc (.cells #[.slice A0 vs.length c0, .slice A1 ar.length c1, .slice A2 fs.length c2] 26) := ⟨_, rfl⟩
  have HW1 := Aside0.mk hW1
  have HBw := Aside0.mk (show Below w.heap.size w W1 by rw [hW1]; exact below_alloc (Below.refl _ _) _)
  have hb3 : W1.heap[w.heap.size]? = some (.cells #[.slice A0 vs.length c0, .slice A1 ar.length c1, .slice A2 fs.length c2] 26 (0, 0)) := by rw [hW1]; exact blk_new w _
  have HP := Aside0.mk (P.below HBw.out)
  have HL := Aside0.mk hL
  have HU := Aside0.mk hu
  have HB3 := Aside0.mk hb3
  have hfl := hL.2.2.1
  have hq2 : W1.cell? ⟨w.heap.size, 2, none⟩ = some (.slice A2 fs.length c2) := (blk_cell hb3 2).trans rfl
  obtain ⟨cpl, hcpl⟩ : ∃ cpl, cpl = callsP vs ar fs := ⟨_, rfl⟩
  rw [← hcpl]
  have HCP := Aside0.mk hcpl
  clear P hL hu hb3 hcpl hW1
  have HMX2 := Kd.C_max HP.out.r2
  go_enter Try.func18, Try.ntmps18
  go_wp2_with ((with_reducible refine gate_dst (N := 9) rfl ?_); rw [← HW1.out]; refine Kd.S_make KI W1.heap.size 51 rfl (N := 9) rfl 48 _ _ rfl (fs.length : Int) rfl rfl Try.underlying48 (.slice none 0 0) 24 info51 rfl (by decide) (by omega) ([] : List Int) (ok := fun _ => True) (okp := fun _ => True) ⟨_, rfl, Kd.R_nil _ _ _ _ _⟩ (fun _ hk => hk) trivial (by omega) (by omega) (Below.refl _ _) (Nat.le_refl _) ?_)
  intro v2 w2 hS2 hB2 hg2 b2_ hat2 hat3
  clear hat2 hat3
  try rw [Int.toNat_natCast] at hS2
  have hrep : (List.replicate fs.length ([] : List Int)).length = fs.length := List.length_replicate
  obtain ⟨g, cp, rfl, hgb, hgl, hgty⟩ := Kd.S_form hS2 (by rw [hrep]; exact hf)
  rw [hrep] at hS2 ⊢
  have HS2 := Aside0.mk hS2
  have HB2 := Aside0.mk hB2
  have HBO := Aside0.mk (blk_new w2 (.cells #[(.slice (some ⟨g, 0, none⟩) fs.length cp)] 48))
  have HB4 := Aside0.mk (below_alloc HB2.out (.cells #[(.slice (some ⟨g, 0, none⟩) fs.length cp)] 48))
  have HS4 := Aside0.mk (Kd.S_alloc HS2.out (.cells #[(.slice (some ⟨g, 0, none⟩) fs.length cp)] 48))
  have hp2 : w2.cell? ⟨w.heap.size, 2, none⟩ = some (.slice A2 fs.length c2) := pw_cell_below HB2.out hq2
  have hlt3 : w.heap.size < w2.heap.size := blk_lt (blk_below HB3.out HB2.out)
  obtain ⟨bo, hbo⟩ : ∃ bo, bo = w2.heap.size := ⟨_, rfl⟩
  have hbo1 : W1.heap.size ≤ bo := by rw [hbo]; exact HB2.out.size
  have HBOE := Aside0.mk hbo
  clear hS2 hB2 hgl hrep hq2 hbo HS2
  try clear hg2
  try clear hgty
  go_wp2_with (fail)
  rw [← HBOE.out] at HBO ⊢
  go_loopw [13] (fun v13 wr => ∃ k : Nat, k ≤ fs.length ∧ v13 = .int .i64 k ∧ Aside0 (wr.heap[bo]? = some (.cells #[(.slice (some ⟨g, 0, none⟩) fs.length cp)] 48 (0, 0))) ∧ Aside0 (Kd.S KI 51 wr W1.heap.size (fun _ => True) (.slice (some ⟨g, 0, none⟩) fs.length cp) (doneC vs ar fs k)) ∧ Aside0 (Below W1.heap.size W1 wr)) (fun v13 _ => fs.length - (intOf v13).toNat)
  case atStart => exact ⟨0, Nat.zero_le _, rfl, HBO, ⟨by rw [doneC_zero]; exact HS4.out⟩, HB4⟩
  case round =>
    clear HBO HS4 HB4 hp2 HB2 HBOE
    obtain ⟨k, hk, rfl, HO, HS, HB⟩ := hrel
    obtain ⟨wj, rfl⟩ : ∃ wj : World, wj = wr := ⟨_, rfl⟩
    by_cases hlt : k < fs.length
    · obtain ⟨ad, B1, d1, B2, d2, B4, d4, rfl, y0, y1, y2, y3, y4, m1, hC1, m2, hC2, m4, hC4⟩ := at_T40 HP.out.r2 (k : Int) (by omega) (by omega)
      have HOK := Aside0.mk (ok_pre (vs := vs) (ar := ar) HU.out hlt)
      have HRL := Aside0.mk (raw_len (vs := vs) (ar := ar) HU.out hlt)
      have HRAW : Aside0 ((usesS (rd_T40 fs (k : Int)).f4).foldl (stepC vs ar fs k) [] = rawC vs ar fs k) := ⟨rfl⟩
      generalize rd_T40 fs (k : Int) = x at *
      rw [Int.toNat_natCast] at y0 y1 y2 y3 y4
      have x0 := pw_cell_below HB.out y0
      have x1 := pw_cell_below HB.out y1
      have x2 := pw_cell_below HB.out y2
      have x3 := pw_cell_below HB.out y3
      have x4 := pw_cell_below HB.out y4
      have HC4 := Aside0.mk hC4
      obtain ⟨bi, hbi⟩ : ∃ bi, bi = wj.heap.size := ⟨_, rfl⟩
      have hB2 := below_alloc (below_alloc (Below.refl wj.heap.size wj) (.cells #[.int .i64 (k : Int)] 3)) (.cells #[.string x.f0, .slice B1 x.f1.length d1, .slice B2 x.f2.length d2, .bool x.f3, .slice B4 x.f4.length d4] 40)
      have HS2 : Aside0 (Now (CapsO w.heap.size bi bo g fs.length cp W1.heap.size #[.slice A0 vs.length c0, .slice A1 ar.length c1, .slice (some ad) fs.length c2] k (doneC vs ar fs k)) [] W1 ((wj.alloc (.cells #[.int .i64 (k : Int)] 3)).alloc (.cells #[.string x.f0, .slice B1 x.f1.length d1, .slice B2 x.f2.length d2, .bool x.f3, .slice B4 x.f4.length d4] 40))) :=
        ⟨below_then HB.out HB.out.size hB2, blk_below (blk_below HB3.out HB.out) hB2, by rw [hbi]; exact blk_below (blk_new wj _) (below_alloc (Below.refl _ _) _), blk_below HO.out hB2, by rw [doneC_self hlt]; exact Kd.S_below (Kd.S_mono (Kd.S_bound HS.out) (fun q hq => by have := hq.2.2.1; omega)) hB2⟩
      have HD : Aside0 (Does 40 w.heap.size bi bo (CapsO w.heap.size bi bo g fs.length cp W1.heap.size #[.slice A0 vs.length c0, .slice A1 ar.length c1, .slice (some ad) fs.length c2] k (doneC vs ar fs k)) (stepC vs ar fs k) (fun l _ => l.length ≤ 1000000) W1) :=
        ⟨{ eg := eg40, call := fun s u W hok hB hS => calls_lit HP.out HL.out hlt hfl (doneC vs ar fs k) (doneC_len _ _ _ _) s hok u W hB hS, stays := fun s W W' h hb => h.below hb }⟩
      have HBI := Aside0.mk hbi
      clear hC1 hC2 hC4 y0 y1 y2 y3 y4 hB2 hbi
      go_wp2_with (fail)
      rw [← HBI.out]
      refine (stmts_calls HD.out _ x.f4 B4 d4 [] _ (Nat.le_refl _) HC4.out m4 HS2.out HOK.out).mono ?_
      rintro e w10 ⟨rfl, hB10, hS10, hK10⟩
      rw [HRAW.out] at hS10
      obtain ⟨l, hl⟩ : ∃ l, l = rawC vs ar fs k := ⟨_, rfl⟩
      rw [← hl] at hS10 HRL
      have HLE := Aside0.mk hl
      have HB10 := Aside0.mk hB10
      have HC10 := Aside0.mk hS10
      have hlen := HRL.out
      clear hB10 hS10 hK10 HS2 HD HO HB HS x0 x1 x2 x3 x4 HOK hl
      obtain ⟨oki, R0, d0, xr, fr, hRr, hH, hoki⟩ := S_row HC10.out.2.2.2 hlt (show ((doneC vs ar fs k).set k l).getD k [] = l by simp [doneC_len, hlt])
      have zo : w10.cell? ⟨bo, 0, none⟩ = some (.slice (some ⟨g, 0, none⟩) fs.length cp) := (blk_cell HC10.out.2.2.1 0).trans rfl
      have zi : w10.cell? ⟨bi, 0, none⟩ = some (.int .i64 (k : Int)) := (blk_cell HC10.out.2.1 0).trans rfl
      have hkn : (k : Int) < (fs.length : Int) := by omega
      have HRr := Aside0.mk hRr
      have HH := Aside0.mk hH
      have HO := Aside0.mk hoki
      clear hRr hH hoki fr
      go_wp2_with (fail)
      refine (sort_row HRr.out hlen).mono ?_
      rintro e w11 ⟨rfl, hg11, hR11⟩
      have hne_bi : some bi ≠ (Value.slice R0 l.length d0).ownBlock := fun e => (HO.out bi (HRr.out.1 bi e.symm)).1 rfl
      have hne_bo : some bo ≠ (Value.slice R0 l.length d0).ownBlock := fun e => by obtain ⟨cs_, h⟩ := R_ty HRr.out bo e.symm; rw [HC10.out.2.2.1] at h; injection h with h; injection h with _ h _; revert h; decide
      have HBI11 := Aside0.mk (blk_grown HC10.out.2.1 hg11 hne_bi)
      have HBO11 := Aside0.mk (blk_grown HC10.out.2.2.1 hg11 hne_bo)
      have HH11 := Aside0.mk (Kd.H_grown HH.out hg11 (fun q e => HRr.out.1 q e))
      have HB11 := Aside0.mk (HB10.out.grown hg11 HB10.out.size (fun q e => Kd.R_base HRr.out q e))
      have HR11 := Aside0.mk hR11
      have hx11 := (Kd.H_at HH11.out (by omega) hkn).1 0 _ rfl
      rw [Int.toNat_natCast, Nat.add_zero, show KI.sz = 1 from rfl, Nat.mul_one] at hx11
      have zo : w11.cell? ⟨bo, 0, none⟩ = some (.slice (some ⟨g, 0, none⟩) fs.length cp) := (blk_cell HBO11.out 0).trans rfl
      have zi : w11.cell? ⟨bi, 0, none⟩ = some (.int .i64 (k : Int)) := (blk_cell HBI11.out 0).trans rfl
      clear hg11 hR11 hne_bi hne_bo HRr HH HC10 HB10 xr
      go_wp2_with (fail)
      refine start_ (n := 9) (S := fun w' => w'.cell? ⟨bo, 0, none⟩ = some (.slice (some ⟨g, 0, none⟩) fs.length cp) ∧ w'.cell? ⟨bi, 0, none⟩ = some (.int .i64 (k : Int)) ∧ w'.cell? ⟨g, k, none⟩ = some (.slice R0 l.length d0)) (ds := [8]) #[false, false, false, false, false, false, false, false, false] (by kernel_rfl) rfl rfl (show _ from ⟨zo, zi, hx11⟩) (fun hHeld => ?_)
      have HB12 := Aside0.mk (below_drew HB11.out)
      have HBI12 := Aside0.mk (blk_below HBI11.out (below_drew (Below.refl _ _)))
      have HBO12 := Aside0.mk (blk_below HBO11.out (below_drew (Below.refl _ _)))
      have HR12 := Aside0.mk (Kd.R_drew HR11.out)
      have HH12 := Aside0.mk (Kd.H_drew HH11.out)
      clear zo zi hx11 HB11 HBI11 HBO11 HR11 HH11
      generalize w11.drew = w12 at *
      refine take_ (i := 0) (N := some 27) (v := ?_) (a' := ?_) #[true, false, false, false, false, false, false, false, false] rfl rfl (by kernel_rfl) (fun _ _ _ h => h) (Or.inl ⟨by rfl, ?_⟩) hHeld ?_ ?_
      rotate_left
      · rintro w' ⟨s0, s1, s2⟩
        go_simp
        with_reducible rfl
      rotate_left
      · simp only [Act.put, List.setIfInBounds_toArray, List.set_cons_zero, List.set_cons_succ, i64_w, i32_w]
        rfl
      refine take_ (i := 1) (N := some 28) (v := ?_) (a' := ?_) #[true, true, false, false, false, false, false, false, false] rfl rfl (by kernel_rfl) (fun _ _ _ h => h) (Or.inl ⟨by rfl, ?_⟩) hHeld ?_ ?_
      rotate_left
      · rintro w' ⟨s0, s1, s2⟩
        go_simp
        with_reducible rfl
      rotate_left
      · simp only [Act.put, List.setIfInBounds_toArray, List.set_cons_zero, List.set_cons_succ, i64_w, i32_w]
        rfl
      refine take_ (i := 2) (N := some 29) (v := ?_) (a' := ?_) #[true, true, true, false, false, false, false, false, false] rfl rfl (by kernel_rfl) (fun _ _ _ h => h) (Or.inl ⟨by rfl, ?_⟩) hHeld ?_ ?_
      rotate_left
      · rintro w' ⟨s0, s1, s2⟩
        go_simp
        with_reducible rfl
      rotate_left
      · simp only [Act.put, List.setIfInBounds_toArray, List.set_cons_zero, List.set_cons_succ, i64_w, i32_w]
        rfl
      refine take_ (i := 3) (N := some 30) (v := ?_) (a' := ?_) #[true, true, true, true, false, false, false, false, false] rfl rfl (by kernel_rfl) (fun _ _ _ h => h) (Or.inl ⟨by rfl, ?_⟩) hHeld ?_ ?_
      rotate_left
      · rintro w' ⟨s0, s1, s2⟩
        go_simp
        with_reducible rfl
      rotate_left
      · simp only [Act.put, List.setIfInBounds_toArray, List.set_cons_zero, List.set_cons_succ, i64_w, i32_w]
        rfl
      refine pure_ (i := 4) (N := some 31) (v := ?_) (a' := ?_) #[true, true, true, true, true, false, false, false, false] rfl rfl (by kernel_rfl) (fun _ _ _ h => h) (Or.inl ⟨by rfl, ?_⟩) ?_ ?_
      rotate_left
      · intro w'
        go_simp
        with_reducible rfl
      rotate_left
      · simp only [Act.put, List.setIfInBounds_toArray, List.set_cons_zero, List.set_cons_succ, i64_w, i32_w]
        rfl
      refine take_ (i := 5) (N := some 32) (v := ?_) (a' := ?_) #[true, true, true, true, true, true, false, false, false] rfl rfl (by kernel_rfl) (fun _ _ _ h => h) (Or.inl ⟨by rfl, ?_⟩) hHeld ?_ ?_
      rotate_left
      · rintro w' ⟨s0, s1, s2⟩
        go_simp
        with_reducible rfl
      rotate_left
      · simp only [Act.put, List.setIfInBounds_toArray, List.set_cons_zero, List.set_cons_succ, i64_w, i32_w]
        rfl
      refine one_ (i := 6) (N := some 33) #[true, true, true, true, true, true, true, false, false] rfl rfl (by kernel_rfl) (by decide) (fun K' hK => ?_)
      refine goes_ Try.func42 (by kernel_rfl) rfl #[.slice R0 l.length d0] (by rfl) rfl rfl (by simp only [List.map_toArray, List.map_cons, List.map_nil]; rfl) ?_
      have hcr := compact_row (l := sortP l) (by rw [sortP_len]; exact HR12.out) (by rw [sortP_len]; exact hlen)
      rw [sortP_len] at hcr
      refine hcr.mono ?_
      rintro e w5 ⟨rfl, hg5, hR5⟩
      have hne_bi : some bi ≠ (Value.slice R0 l.length d0).ownBlock := fun e => (HO.out bi (HR12.out.1 bi e.symm)).1 rfl
      have hne_bo : some bo ≠ (Value.slice R0 l.length d0).ownBlock := fun e => by obtain ⟨cs_, h⟩ := R_ty HR12.out bo e.symm; rw [HBO12.out] at h; injection h with h; injection h with _ h _; revert h; decide
      have hbi5 := blk_grown HBI12.out hg5 hne_bi
      have hbo5 := blk_grown HBO12.out hg5 hne_bo
      have HH5 := Aside0.mk (Kd.H_grown HH12.out hg5 (fun q e => HR12.out.1 q e))
      have HB5 := Aside0.mk (HB12.out.grown hg5 HB12.out.size (fun q e => Kd.R_base HR12.out q e))
      have HO5 := Aside0.mk hR5
      obtain ⟨hx5, hf5⟩ := Kd.H_at HH5.out (by omega) hkn
      replace hx5 := hx5 0 _ rfl
      replace hf5 := hf5 0
      rw [Int.toNat_natCast, Nat.add_zero, show KI.sz = 1 from rfl, Nat.mul_one] at hx5 hf5
      refine ⟨_, rfl, hK.out _ _ ⟨(blk_cell hbo5 0).trans rfl, (blk_cell hbi5 0).trans rfl, hx5⟩ (fun hHeld => ?_)⟩
      have HBO5 := Aside0.mk hbo5
      obtain ⟨cl, hcl⟩ : ∃ cl, cl = Lib.compact (sortP l) := ⟨_, rfl⟩
      rw [← hcl] at HO5 ⊢
      have HCL := Aside0.mk hcl
      clear hK K' hg5 hR5 HR12 HH12 HB12 hbi5 hbo5 hcl hne_bi hne_bo HBO12 HBI12 hcr
      refine norm_ (a' := ?_) ?_ ?_
      rotate_left
      · show Act.put _ (some 33) _ = _
        simp only [Act.put, List.setIfInBounds_toArray, List.set_cons_zero, List.set_cons_succ, i64_w, i32_w]
        rfl
      refine pure_ (i := 7) (N := some 34) (v := ?_) (a' := ?_) #[true, true, true, true, true, true, true, true, false] rfl rfl (by kernel_rfl) (fun _ _ _ h => h) (Or.inl ⟨by rfl, ?_⟩) ?_ ?_
      rotate_left
      · intro w'
        go_simp
        with_reducible rfl
      rotate_left
      · simp only [Act.put, List.setIfInBounds_toArray, List.set_cons_zero, List.set_cons_succ, i64_w, i32_w]
        rfl
      refine last_ (i := 8) (N := none) #[true, true, true, true, true, true, true, true, true] rfl rfl (by kernel_rfl) (by decide) (fun K' hK => ?_)
      refine skip_ (w1 := w5.setCell ⟨g, k, none⟩ (.slice R0 cl.length d0)) (by rfl) rfl (by go_simp) ?_
      refine hK.out _ _ ?_
      clear hK K'
      refine done_ (by kernel_rfl) ?_
      have hgt : ∃ cells, w5.heap[g]? = some (.cells cells 51 (0, 0)) := by
        obtain ⟨rws, _, hraw, _⟩ := Kd.H_raw HH5.out (by omega) hkn
        exact R_ty hraw g rfl
      obtain ⟨gc, hgc⟩ := hgt
      have hP5 := Kd.S_seg0 HH5.out (by omega) hkn (seg := [.slice R0 cl.length d0]) (j := 0) (show 1 ≤ 1 from by decide) (x' := cl) (Kd.M_row HO5.out) (fun _ hk => hk)
      rw [Int.toNat_natCast, show KI.sz = 1 from rfl, Nat.mul_one, Nat.add_zero, List.set_set] at hP5
      have HS6 : Aside0 (Kd.S KI 51 (w5.setCell ⟨g, k, none⟩ (.slice R0 cl.length d0)) W1.heap.size (fun _ => True) (.slice (some ⟨g, 0, none⟩) fs.length cp) (doneC vs ar fs (k + 1))) := ⟨by rw [← doneC_set hlt]; unfold rowC; rw [← HLE.out, ← HCL.out]; exact Kd.S_mono hP5.1 (fun _ _ => trivial)⟩
      have HB6 := Aside0.mk (HB5.out.setCell (p := ⟨g, k, none⟩) (Kd.S_base HS6.out g rfl) (.slice R0 cl.length d0))
      have HO6 : Aside0 ((w5.setCell ⟨g, k, none⟩ (.slice R0 cl.length d0)).heap[bo]? = some (.cells #[(.slice (some ⟨g, 0, none⟩) fs.length cp)] 48 (0, 0))) := ⟨by rw [Below.heap_setCell w5 _ _ _ (show bo ≠ g from ne_type HBO5.out hgc (by decide))]; exact HBO5.out⟩
      clear hP5 hx5 hf5 hgc HH5 HO5 HB5 HBO5
      go_wp2_with (fail)
      go_roundw
      case rel => exact ⟨k + 1, hlt, by go_num, HO6, HS6, HB6⟩
      case measure => simp [intOf]; omega
    · obtain rfl : k = fs.length := by omega
      have zo : wj.cell? ⟨bo, 0, none⟩ = some (.slice (some ⟨g, 0, none⟩) fs.length cp) := (blk_cell HO.out 0).trans rfl
      have HEND := Aside0.mk (below_then HBw.out HBw.out.size HB.out)
      have HSE : Aside0 (Kd.S KI 51 wj w.heap.size (fun _ => True) (.slice (some ⟨g, 0, none⟩) fs.length cp) cpl) := ⟨by rw [HCP.out, ← doneC_all]; exact Kd.S_lower HS.out HBw.out.size⟩
      clear HS HB HO
      go_wp2_with (fail)
      go_ret
      exact ⟨_, rfl, HSE.out, HEND.out⟩
end Go.Proofs.Ytdpncghnlkgkdaa.H
set_option linter.unusedVariables false
set_option linter.unusedSimpArgs false
namespace Go.Proofs.Ytdpncghnlkgkdaa.G
open Go.RowKit Go.Proofs.YtdpncghnlkgkdaaW.PrintWords Go.Proofs.YtdpncghnlkgkdaaW.PrintLast Go.Proofs.YtdpncghnlkgkdaaW.PrintMore
open H

instance decLens (vs : List ByteArray) (ar : List S68) (fs : List S40) : Decidable (Lens vs ar fs) := by unfold Lens; infer_instance
instance decUses (fs : List S40) : Decidable (UsesB fs) := by unfold UsesB; infer_instance
def scope_Check.f (vs : List ByteArray) (ar : List S68) (fs : List S40) : Option Int := if Lens vs ar fs ∧ 0 < fs.length then some (checkP vs ar fs) else none
theorem scope_Check.ok {vs : List ByteArray} {ar : List S68} {fs : List S40} (h : Lens vs ar fs) (hf : 0 < fs.length) : scope_Check.f vs ar fs = some (checkP vs ar fs) := if_pos ⟨h, hf⟩
theorem scope_Check.calls (A0 : Option Addr) (c0 : Nat) (vs : List ByteArray) (A1 : Option Addr) (c1 : Nat) (ar : List S68) (A2 : Option Addr) (c2 : Nat) (fs : List S40) (r : Int) (w : World) (hr0 : Kd.C Kd.string w A0 vs.length vs) (hc0 : vs.length ≤ c0) (hr1 : Kd.C k68 w A1 ar.length ar) (hc1 : ar.length ≤ c1) (hr2 : Kd.C k40 w A2 fs.length fs) (hc2 : fs.length ≤ c2) (h : scope_Check.f vs ar fs = some r) :
    Calls Try.prog 14 #[.agg #[.slice A0 vs.length c0, .slice A1 ar.length c1, .slice A2 fs.length c2]] w fun e w' => e = .returned (.int .i64 r) ∧ Below w.heap.size w w' := by
  by_cases hk : Lens vs ar fs ∧ 0 < fs.length
  · rw [scope_Check.ok hk.1 hk.2] at h
    injection h with h
    subst h
    exact check_calls _ _ _ _ _ _ _ _ _ w ⟨hr0, hr1, hr2, hc0, hc1, hc2⟩ hk.1 hk.2
  · rw [show scope_Check.f vs ar fs = none from if_neg hk] at h
    cases h
def scope_Find.f (vs : List ByteArray) (ar : List S68) (fs : List S40) (f : Int) (s : ByteArray) : Option (Int × Int) := if Lens vs ar fs then some (findP vs ar fs f s) else none
theorem scope_Find.ok {vs : List ByteArray} {ar : List S68} {fs : List S40} (h : Lens vs ar fs) (f : Int) (s : ByteArray) : scope_Find.f vs ar fs f s = some (findP vs ar fs f s) := if_pos h
theorem scope_Find.calls (A0 : Option Addr) (c0 : Nat) (vs : List ByteArray) (A1 : Option Addr) (c1 : Nat) (ar : List S68) (A2 : Option Addr) (c2 : Nat) (fs : List S40) (f : Int) (s : ByteArray) (r1 r2 : Int) (w : World) (hr0 : Kd.C Kd.string w A0 vs.length vs) (hc0 : vs.length ≤ c0) (hr1 : Kd.C k68 w A1 ar.length ar) (hc1 : ar.length ≤ c1) (hr2 : Kd.C k40 w A2 fs.length fs) (hc2 : fs.length ≤ c2) (h : scope_Find.f vs ar fs f s = some (r1, r2)) :
    Calls Try.prog 16 #[.agg #[.slice A0 vs.length c0, .slice A1 ar.length c1, .slice A2 fs.length c2], .int .i64 f, .string s] w fun e w' => e = .returned (.tuple #[.int .i64 r1, .int .i64 r2]) ∧ Below w.heap.size w w' := by
  by_cases hk : Lens vs ar fs
  · rw [scope_Find.ok hk] at h
    injection h with h
    have h1 : r1 = (findP vs ar fs f s).1 := by rw [h]
    have h2 : r2 = (findP vs ar fs f s).2 := by rw [h]
    subst h1 h2
    exact find_calls _ _ _ _ _ _ _ _ _ f s w hr0 hr1 hr2 (fun hf => hk.own f hf)
  · rw [show scope_Find.f vs ar fs f s = none from if_neg hk] at h
    cases h
def scope_Calls.f (vs : List ByteArray) (ar : List S68) (fs : List S40) : Option (List (List Int)) := if Lens vs ar fs ∧ 0 < fs.length ∧ UsesB fs then some (callsP vs ar fs) else none
theorem scope_Calls.ok {vs : List ByteArray} {ar : List S68} {fs : List S40} (h : Lens vs ar fs) (hf : 0 < fs.length) (hu : UsesB fs) : scope_Calls.f vs ar fs = some (callsP vs ar fs) := if_pos ⟨h, hf, hu⟩
theorem scope_Calls.calls (A0 : Option Addr) (c0 : Nat) (vs : List ByteArray) (A1 : Option Addr) (c1 : Nat) (ar : List S68) (A2 : Option Addr) (c2 : Nat) (fs : List S40) (r : List (List Int)) (w : World) (hr0 : Kd.C Kd.string w A0 vs.length vs) (hc0 : vs.length ≤ c0) (hr1 : Kd.C k68 w A1 ar.length ar) (hc1 : ar.length ≤ c1) (hr2 : Kd.C k40 w A2 fs.length fs) (hc2 : fs.length ≤ c2) (h : scope_Calls.f vs ar fs = some r) :
    Calls Try.prog 18 #[.agg #[.slice A0 vs.length c0, .slice A1 ar.length c1, .slice A2 fs.length c2]] w fun e w' => ∃ v0_ : Value, e = .returned v0_ ∧ Kd.S (Kd.slice 3 (Kd.int .i64)) 51 w' w.heap.size (fun _ => True) v0_ r ∧ Below w.heap.size w w' := by
  by_cases hk : Lens vs ar fs ∧ 0 < fs.length ∧ UsesB fs
  · rw [scope_Calls.ok hk.1 hk.2.1 hk.2.2] at h
    injection h with h
    subst h
    exact calls_calls _ _ _ _ _ _ _ _ _ w ⟨hr0, hr1, hr2, hc0, hc1, hc2⟩ hk.1 hk.2.1 hk.2.2
  · rw [show scope_Calls.f vs ar fs = none from if_neg hk] at h
    cases h
end Go.Proofs.Ytdpncghnlkgkdaa.G
