/- graph.Circle, walked: from the first thing without a height one goes on along such things till one comes again. Condition: there are at most 1000 things, of at most 1000 needs each. -/
import Derived.Test.YtdknnekkbhpjlaaHLevels
import Derived.Test.YtdknnekkbhpjlaaGf29
set_option linter.unusedVariables false
set_option linter.unusedSimpArgs false
namespace Go.Proofs.Ytdknnekkbhpjlaa.H
open Go.RowKit Go.Proofs.YtdknnekkbhpjlaaW.PrintWords Go.Proofs.YtdknnekkbhpjlaaW.PrintLast Go.Proofs.YtdknnekkbhpjlaaW.PrintMore Go.Proofs.Ytdknnekkbhpjlaa.G

/-- The place of a number in a row, from place i on. -/
def idxI (a : Int) : List Int → Nat → Int
  | [], _ => -1
  | x :: r, i => if a = x then (i : Int) else idxI a r (i + 1)
theorem idxI_pos {a : Int} : ∀ {l : List Int} {i : Nat}, 0 ≤ idxI a l i → ∃ k : Nat, idxI a l i = ((i + k : Nat) : Int) ∧ k < l.length ∧ rd l (k : Int) = a
  | [], i, h => by simp [idxI] at h
  | x :: r, i, h => by
    unfold idxI at h ⊢
    split
    · next e => exact ⟨0, by simp, by simp, by simp [rd, e]⟩
    · next e =>
      rw [if_neg e] at h
      obtain ⟨k, h1, h2, h3⟩ := idxI_pos h
      refine ⟨k + 1, by rw [h1]; congr 1; omega, by simp; omega, ?_⟩
      unfold rd at h3 ⊢
      rw [Int.toNat_natCast] at h3 ⊢
      simpa using h3
theorem idxI_neg {a : Int} : ∀ {l : List Int} {i : Nat}, ¬ 0 ≤ idxI a l i → a ∉ l
  | [], i, h => by simp
  | x :: r, i, h => by
    unfold idxI at h
    split at h
    · omega
    · next e =>
      have := idxI_neg h
      simp [e, this]
theorem index_l0 {l : List Int} (a : Int) (hl : l.length ≤ 1000000) : ∀ (d i k : Nat), i + d = l.length → d + 1 ≤ k → slices_Index_int_int.l0 k l a l.length (i : Int) = some (idxI a (l.drop i) i) := by
  intro d
  induction d with
  | zero =>
    intro i k hd hk
    obtain ⟨m, rfl⟩ : ∃ m, k = m + 1 := ⟨k - 1, by omega⟩
    rw [slices_Index_int_int.l0, if_neg (by omega), List.drop_of_length_le (by omega)]
    rfl
  | succ d ih =>
    intro i k hd hk
    obtain ⟨m, rfl⟩ : ∃ m, k = m + 1 := ⟨k - 1, by omega⟩
    have hi : i < l.length := by omega
    rw [slices_Index_int_int.l0, if_pos (by omega), if_pos (by omega), if_pos (by omega), drop_rd hi, wr64 (by omega), ih (i + 1) m (by omega) (by omega), idxI]
    split <;> rfl
theorem index_f {l : List Int} (a : Int) (hl : l.length ≤ 1000000) {k : Nat} (hk : 1000001 ≤ k) : slices_Index_int_int.f k l a = some (idxI a l 0) := by
  unfold slices_Index_int_int.f
  exact index_l0 a hl l.length 0 k (by omega) (by omega)

/-- The first of n things that has no height; -1: none. -/
def firstNo (M : Mp) : Nat → Nat → Int
  | 0, _ => -1
  | d + 1, i => if (M i).isSome = true then firstNo M d (i + 1) else (i : Int)

theorem no28 (B gm s : Nat) (M : Mp) (i : Int) (W : World) (hb : W.heap[B]? = some (.cells #[.map (some gm)] 42 (0, 0))) (hM : KM W gm s M) (hi : (Lit.int .i64 i).wf = true) :
    Calls Try.prog 28 #[.int .i64 i, .pointer (some ⟨B, 0, none⟩)] W fun e W' => e = .returned (.bool (!(M i).isSome)) ∧ W' = W := by
  have z : W.cell? ⟨B, 0, none⟩ = some (.map (some gm)) := (blk_cell hb 0).trans rfl
  go_enter Try.func28, Try.ntmps28
  cases hd : (M i).isSome
  all_goals
    have hd' := Aside0.mk hd
    clear hd
    go_wp2_with (at_lookup; refine IM.look rfl _ _ 42 rfl Try.underlying42 Try.underlying3 Try.underlying3 (info3' _) rfl hM i rfl hi ?_; rw [hd'.out])
    go_ret
    exact ⟨rfl, rfl⟩

set_option maxHeartbeats 1000000 in
theorem indexFunc_calls (A : Option Addr) (c n B gm s : Nat) (M : Mp) (all : List Int) (w : World) (hr : Kd.C (Kd.int .i64) w A n all) (hc : n ≤ c) (hall : all = (List.range n).map fun (i : Nat) => (i : Int)) (hn : n ≤ 100000)
    (hb : w.heap[B]? = some (.cells #[.map (some gm)] 42 (0, 0))) (hM : KM w gm s M) :
    Calls Try.prog 27 #[.slice A n c, .func (.func 28) #[] #[.pointer (some ⟨B, 0, none⟩)]] w fun e w' => e = .returned (.int .i64 (firstNo M n 0)) ∧ w' = w := by
  have eg := enters_of Try.func28 (by kernel_rfl) rfl
  have HA := Aside0.mk hall
  clear hall
  go_enter Try.func27, Try.ntmps27
  go_wp2_with (fail)
  go_loop [5, 8] (fun _ i => ∃ k : Nat, k ≤ n ∧ i = .int .i64 k ∧ Aside0 (firstNo M n 0 = firstNo M (n - k) k)) (fun _ i => n - (intOf i).toNat)
  case atStart => exact ⟨0, Nat.zero_le _, rfl, ⟨rfl⟩⟩
  case round =>
    obtain ⟨k, hk, rfl, HF⟩ := hrel
    by_cases hlt : k < n
    · obtain ⟨ad, rfl, hcell⟩ := Kd.at_int hr (k : Int) (by omega) (by omega)
      have hrd : rd all (k : Int) = (k : Int) := by
        rw [HA.out]
        simp [rd, hlt]
      rw [hrd, Int.toNat_natCast] at hcell
      clear hrd
      have hwk : (Lit.int .i64 (k : Int)).wf = true := wf64 (by omega) (by omega)
      have hcall := no28 B gm s M (k : Int) w hb hM hwk
      cases hd : (M (k : Int)).isSome with
      | true =>
        rw [hd] at hcall
        have hd' := Aside0.mk hd
        clear hd
        go_wp2_with (fail)
        refine hcall.mono ?_
        rintro e w' ⟨rfl, rfl⟩
        go_wp2_with (fail)
        go_round
        case rel => exact ⟨k + 1, hlt, by go_num, ⟨by rw [HF.out, show n - k = (n - (k + 1)) + 1 by omega, firstNo, if_pos hd'.out]⟩⟩
        case measure => simp [intOf]; omega
      | false =>
        rw [hd] at hcall
        have hd' := Aside0.mk hd
        clear hd
        go_wp2_with (fail)
        refine hcall.mono ?_
        rintro e w' ⟨rfl, rfl⟩
        go_wp2_with (fail)
        go_ret
        exact ⟨by rw [HF.out, show n - k = (n - (k + 1)) + 1 by omega, firstNo, if_neg (by rw [hd'.out]; simp)]; rfl, rfl⟩
    · obtain rfl : k = n := by omega
      go_wp2_with (fail)
      go_ret
      exact ⟨by rw [HF.out, Nat.sub_self, firstNo]; rfl, rfl⟩

/-- The first of what one needs that has no height; itself, if all have. -/
def nextC (M : Mp) (at0 : Int) : List Int → Int
  | [] => at0
  | j :: r => if (M j).isSome = true then nextC M at0 r else j
def circ (needs : List (List Int)) (M : Mp) : Nat → List Int → Int → List Int
  | 0, way, _ => way
  | f + 1, way, a => if 0 ≤ idxI a way 0 then way.drop (idxI a way 0).toNat else circ needs M f (way ++ [a]) (nextC M a (nd needs a.toNat))
def circleP (needs : List (List Int)) : List Int :=
  if rightB needs = true then (if firstNo (hts needs) needs.length 0 < 0 then [] else circ needs (hts needs) (needs.length + 1) [] (firstNo (hts needs) needs.length 0)) else []
theorem firstNo_lt {M : Mp} : ∀ {d i : Nat}, 0 ≤ firstNo M d i → ∃ k : Nat, firstNo M d i = (k : Int) ∧ k < i + d ∧ i ≤ k ∧ (M (k : Int)).isSome = false
  | 0, i, h => by simp [firstNo] at h
  | d + 1, i, h => by
    unfold firstNo at h ⊢
    split
    · next e =>
      rw [if_pos e] at h
      obtain ⟨k, h1, h2, h3, h4⟩ := firstNo_lt h
      exact ⟨k, h1, by omega, by omega, h4⟩
    · next e => exact ⟨i, rfl, by omega, Nat.le_refl _, by simpa using e⟩
theorem nextC_or {M : Mp} {a : Int} : ∀ {l : List Int}, nextC M a l = a ∨ nextC M a l ∈ l
  | [] => .inl rfl
  | j :: r => by
    unfold nextC
    split
    · rcases nextC_or (M := M) (a := a) (l := r) with h | h
      · exact .inl h
      · exact .inr (List.mem_cons_of_mem _ h)
    · exact .inr (List.mem_cons_self ..)
theorem nodup_bd : ∀ {n : Nat} {l : List Int}, l.Nodup → (∀ x ∈ l, 0 ≤ x ∧ x < n) → l.length ≤ n
  | 0, l, _, h2 => by
    cases l with
    | nil => simp
    | cons x r => have := h2 x (by simp); omega
  | n + 1, l, h1, h2 => by
    by_cases hm : (n : Int) ∈ l
    · have h3 := nodup_bd (n := n) (l := l.erase (n : Int)) (h1.erase _) (fun x hx => by
        obtain ⟨ha, hb⟩ := (h1.mem_erase_iff).1 hx
        have := h2 x hb
        omega)
      rw [List.length_erase_of_mem hm] at h3
      omega
    · have h3 := nodup_bd (n := n) (l := l) h1 (fun x hx => by
        have := h2 x hx
        have : x ≠ n := fun e => hm (e ▸ hx)
        omega)
      omega

theorem i3 : ∃ i : TypeInfo, Try.prog.info? 3 = some i ∧ i.size = 1 := by
  have h := info3
  cases e : Try.prog.info? 3 with
  | none => rw [e] at h; cases h
  | some i =>
    rw [e] at h
    injection h with h
    injection h with _ h
    injection h with h _
    exact ⟨i, rfl, h⟩

set_option maxHeartbeats 4000000 in
set_option maxRecDepth 100000 in
theorem circle_calls (A : Option Addr) (c : Nat) (needs : List (List Int)) (w : World) (hr : Kd.C KI w A needs.length needs) (hc : needs.length ≤ c) (hL : Lens needs) :
    Calls Try.prog 12 #[.slice A needs.length c] w fun e w' => ∃ v, e = .returned v ∧ Kd.Q (Kd.int .i64) 3 w' w.heap.size (fun _ => True) v (circleP needs) ∧ Below w.heap.size w w' := by
  obtain ⟨K, hK⟩ : ∃ K : Nat, 2000000 ≤ K := ⟨_, Nat.le_refl _⟩
  have hmf : ∀ (fn : Fn) (first cap : Array Value) (w : World), (Instr.makeFunc fn first cap).run Try.prog w = .ok (.func fn first cap) w := fun _ _ _ _ => rfl
  have eg := enters_of Try.func26 (by kernel_rfl) rfl
  obtain ⟨ti, hi3, hs3⟩ := i3
  have HL := Aside0.mk hL
  obtain ⟨lp, hlp⟩ : ∃ lp, lp = circleP needs := ⟨_, rfl⟩
  rw [← hlp]
  have HLP := Aside0.mk hlp
  clear hlp
  have hla : ((List.range needs.length).map fun (i : Nat) => (i : Int)).length = needs.length := by simp
  cases hrb : rightB needs with
  | false =>
    have HRB := Aside0.mk hrb
    clear hrb
    go_enter Try.func12, Try.ntmps12
    go_wp2_with (fail)
    refine (graph_right.calls K A c needs false _ (Kd.C_alloc hr _) hc (by rw [right_f hL hK, HRB.out])).mono ?_
    rintro e w1 ⟨rfl, hd⟩
    have HB := Aside0.mk (hd.below)
    clear hd
    go_wp2_with (fail)
    go_ret
    exact ⟨_, rfl, by rw [HLP.out]; unfold circleP; rw [HRB.out]; exact Kd.Q_nil _ _ _ _ _, below_then (below_alloc (Below.refl _ _) _) (by simp) HB.out⟩
  | true =>
    have HRB := Aside0.mk hrb
    clear hrb
    go_enter Try.func12, Try.ntmps12
    go_wp2_with (fail)
    refine (graph_right.calls K A c needs true _ (Kd.C_alloc hr _) hc (by rw [right_f hL hK, HRB.out])).mono ?_
    rintro e w1 ⟨rfl, hd⟩
    have HB1 := Aside0.mk (below_then (below_alloc (Below.refl _ _) (.cells #[.slice A needs.length c] 24)) (by simp) hd.below)
    have hb1 := blk_below (blk_new w (.cells #[.slice A needs.length c] 24)) hd.below
    clear hd
    have z1 : w1.cell? ⟨w.heap.size, 0, none⟩ = some (.slice A needs.length c) := (blk_cell hb1 0).trans rfl
    go_wp2_with (fail)
    refine (things_calls A c needs _ (by have := hL.1; omega)).mono ?_
    rintro e w2 ⟨v, rfl, hR2, hB2⟩
    obtain ⟨A2, c2, rfl⟩ := Kd.R_slice hR2
    rw [hla]
    have hb2 := blk_below hb1 hB2
    have hC2 := (Kd.R_reads' hR2).2.2
    have hle2 := (Kd.R_reads' hR2).2.1
    rw [hla] at hle2
    have HB2 := Aside0.mk (below_then HB1.out HB1.out.size hB2)
    have z2 : w2.cell? ⟨w.heap.size, 0, none⟩ = some (.slice A needs.length c) := (blk_cell hb2 0).trans rfl
    have hr2 : Kd.C KI w2 A needs.length needs := Kd.C_below hr HB2.out
    clear hR2 hB2 hb1 z1
    go_wp2_with (fail)
    have hh := heights_calls 26 w.heap.size eg A2 c2 ((List.range needs.length).map fun (i : Nat) => (i : Int)) needs w2 hC2 (by rw [hla]; exact hle2) rfl (by have := hL.1; omega) (rightB_true HRB.out) (next26 _ A c needs w2 hb2 hr2)
    rw [hla] at hh
    refine hh.mono ?_
    rintro e w3 ⟨gm, rfl, km3, hB3, hgm⟩
    have hb3 := blk_below hb2 hB3
    have z3 : w3.cell? ⟨w.heap.size, 0, none⟩ = some (.slice A needs.length c) := (blk_cell hb3 0).trans rfl
    have HB3 := Aside0.mk (below_then HB2.out HB2.out.size hB3)
    have hgm0 : w.heap.size < gm := by have := blk_lt hb2; omega
    have hn1 := hL.1
    clear hh hB3 hb2 z2 hC2 hr2 hgm hle2
    have hz3 := blk_lt hb3
    go_wp2_with (fail)
    have hb4 := blk_alloc hb3 (.cells #[.map (some gm)] 42)
    have hg4 := blk_new w3 (.cells #[.map (some gm)] 42)
    have km4 := km3.alloc (.cells #[.map (some gm)] 42)
    have HB4 := Aside0.mk (below_alloc HB3.out (.cells #[.map (some gm)] 42))
    clear hb3 km3 z3 HB3
    refine (things_calls A c needs _ (by omega)).mono ?_
    rintro e w5 ⟨v, rfl, hR5, hB5⟩
    obtain ⟨A5, c5, rfl⟩ := Kd.R_slice hR5
    rw [hla]
    have hb5 := blk_below hb4 hB5
    have hg5 := blk_below hg4 hB5
    have km5 : KM w5 gm (cnt (hts needs) needs.length) (hts needs) := km4.same (hB5.block _ km4.lt)
    have hC5 := (Kd.R_reads' hR5).2.2
    have hle5 := (Kd.R_reads' hR5).2.1
    rw [hla] at hle5 hC5
    have HB5 := Aside0.mk (below_then HB4.out HB4.out.size hB5)
    have hgB : gm ≠ w3.heap.size := by have := km4.lt; have := ne_map km4 hg4; omega
    clear hR5 hB5 hb4 hg4 km4 HB4
    go_wp2_with (fail)
    refine (indexFunc_calls A5 c5 needs.length w3.heap.size gm _ (hts needs) _ w5 hC5 hle5 rfl (by omega) hg5 km5).mono ?_
    rintro e w6 ⟨rfl, rfl⟩
    clear hC5 hle5
    have HLev := Aside0.mk (hts_lev needs)
    have HDom := Aside0.mk (hts_dom needs)
    generalize hH : hts needs = H at *
    have HH := Aside0.mk hH
    clear hH
    by_cases hno : firstNo H needs.length 0 < 0
    · have e : lp = [] := by rw [HLP.out]; unfold circleP; rw [if_pos HRB.out, HH.out, if_pos hno]
      go_wp2_with (fail)
      go_ret
      exact ⟨_, rfl, by rw [e]; exact Kd.Q_nil _ _ _ _ _, HB5.out⟩
    · obtain ⟨at0, ha1, ha2, ha3, ha4⟩ := firstNo_lt (M := H) (d := needs.length) (i := 0) (by omega)
      have HC := Aside0.mk (show lp = circ needs H (needs.length + 1) [] (at0 : Int) by rw [HLP.out]; unfold circleP; rw [if_pos HRB.out, HH.out, if_neg hno, ha1])
      rw [ha1]
      clear hno ha1 ha4 ha3 HLP
      have hat : at0 < needs.length := by omega
      clear ha2
      go_wp2_with (fail)
      go_loopg [4, 5] (needs.length + 1) (fun f v4 v5 wr => ∃ (a : Nat) (way : List Int) (A6 : Option Addr) (c6 : Nat), v4 = .int .i64 a ∧ v5 = .slice A6 way.length c6 ∧ a < needs.length ∧ way.length + f = needs.length + 1 ∧ Aside0 (way.Nodup ∧ ∀ x ∈ way, 0 ≤ x ∧ x < needs.length) ∧ Aside0 (lp = circ needs H f way (a : Int)) ∧ Aside0 (Kd.R (Kd.int .i64) 3 wr w.heap.size (fun _ => True) (.slice A6 way.length c6) way) ∧ Aside0 (KM wr gm (cnt H needs.length) H) ∧ Aside0 (wr.heap[w.heap.size]? = some (.cells #[.slice A needs.length c] 24 (0, 0))) ∧ Aside0 (wr.heap[w3.heap.size]? = some (.cells #[.map (some gm)] 42 (0, 0))) ∧ Aside0 (Below w.heap.size w wr))
      case atStart => exact ⟨at0, [], none, 0, rfl, rfl, hat, by simp, ⟨List.nodup_nil, fun x hx => by cases hx⟩, HC, ⟨Kd.R_nil _ _ _ _ _⟩, ⟨km5⟩, ⟨hb5⟩, ⟨hg5⟩, HB5⟩
      case round =>
        clear hat HC km5 hb5 hg5 HB5
        obtain ⟨a, way, A6, c6, rfl, rfl, hal, hwl, HW, HC, HR, HM, HBA, HBG, HB⟩ := hrel
        obtain ⟨wo, rfl⟩ : ∃ wo : World, wo = wr := ⟨_, rfl⟩
        have hwn := nodup_bd HW.out.1 HW.out.2
        obtain ⟨f, rfl⟩ : ∃ f, gk = f + 1 := ⟨gk - 1, by omega⟩
        have hrd := (Kd.R_reads' HR.out).2
        go_wp2_with (fail)
        refine (slices_Index_int_int.calls K A6 c6 way (a : Int) (idxI (a : Int) way 0) _ hrd.2 hrd.1 (index_f _ (by omega) (by omega))).mono ?_
        rintro e w7 ⟨rfl, hd7⟩
        have hB7 := hd7.below
        have HR7 := Aside0.mk (Kd.R_below HR.out hB7)
        have HM7 := Aside0.mk (HM.out.same (hB7.block _ HM.out.lt))
        have HBA7 := Aside0.mk (blk_below HBA.out hB7)
        have HBG7 := Aside0.mk (blk_below HBG.out hB7)
        have HB7 := Aside0.mk (below_then HB.out HB.out.size hB7)
        clear hrd hd7 hB7 HR HM HBA HBG HB
        by_cases hix : 0 ≤ idxI (a : Int) way 0
        · obtain ⟨q, hq1, hq2, _⟩ := idxI_pos hix
          rw [Nat.zero_add] at hq1
          have e : lp = way.drop q := by rw [HC.out, circ, if_pos hix, hq1, Int.toNat_natCast]
          rw [hq1]
          have HE := Aside0.mk e
          clear hix hq1 e
          have hcut := cut_from 25 3 .i64 Try.underlying25 hi3 1 hs3 A6 way.length c6 (q : Int) (by omega) (by omega)
          have hcq : ¬ c6 = q := by have := (Kd.R_reads' HR7.out).2.1; omega
          simp only [Int.toNat_natCast, if_neg hcq] at hcut
          clear hcq
          go_wp2_with (fail)
          go_ret
          refine ⟨_, rfl, ?_, HB7.out⟩
          rw [HE.out]
          have h := Kd.Q_drop (Kd.Q_of_R HR7.out) (k := q) (by omega)
          rw [if_neg (by have := (Kd.R_reads' HR7.out).2.1; omega), show (Kd.int .i64).sz = 1 from rfl] at h
          simpa using h
        · have HNM := Aside0.mk (idxI_neg hix)
          have hce : circ needs H (f + 1) way (a : Int) = circ needs H f (way ++ [(a : Int)]) (nextC H (a : Int) (nd needs a)) := by rw [circ, if_neg hix, Int.toNat_natCast]
          have HC2 := Aside0.mk (HC.out.trans hce)
          clear hce HC
          have hixn : idxI (a : Int) way 0 < 0 := by omega
          clear hix
          generalize idxI (a : Int) way 0 = ix at *
          have hsz7 := HB7.out.size
          go_wp2_with (at_builtin; refine Kd.R_append (Kd.int .i64) (w0 := w7) w.heap.size rfl (.tmp 32) (.tmp 34) 25 3 (.int .i64 0) 8 rfl Try.underlying25 info3 rfl (by decide) (by omega) (.slice A6 way.length c6) way (a : Int) [.int .i64 (a : Int)] (fun _ => True) (fun _ => False) rfl rfl rfl (fun _ hk => hk.elim) (fun _ _ => trivial) HR7.out (Below.refl _ _) hsz7 (by omega) ?_)
          intro v1 w8 rS8 hB8 hg8 hat8
          obtain ⟨A8, c8, rfl⟩ := Kd.R_slice rS8
          have hwl1 : (way ++ [(a : Int)]).length = way.length + 1 := by simp
          rw [hwl1] at rS8 ⊢
          have HWL := Aside0.mk hwl1
          clear hwl1
          have HR8 := Aside0.mk rS8
          have HM8 := Aside0.mk (HM7.out.kept hg8 (R_mapne HR7.out HM7.out))
          have HBA8 := Aside0.mk (blk_grown HBA7.out hg8 (Kd.R_ne HR7.out HBA7.out (by decide)))
          have HBG8 := Aside0.mk (blk_grown HBG7.out hg8 (Kd.R_ne HR7.out HBG7.out (by decide)))
          have HB8 := Aside0.mk (HB7.out.grown hg8 hsz7 (fun q e => (Kd.R_bound HR7.out).1 q e |>.2.1))
          clear rS8 hB8 hg8 hat8 HR7 HM7 HBA7 HBG7 HB7 hsz7
          have z8 : w8.cell? ⟨w.heap.size, 0, none⟩ = some (.slice A needs.length c) := (blk_cell HBA8.out 0).trans rfl
          have y8 : w8.cell? ⟨w3.heap.size, 0, none⟩ = some (.map (some gm)) := (blk_cell HBG8.out 0).trans rfl
          obtain ⟨adn, An, cn, rfl, xn, hln, hCn⟩ := at_L1 (Kd.C_below hr HB8.out) (a : Int) (by omega) (by omega)
          rw [rd_nd] at xn hln hCn
          rw [Int.toNat_natCast] at xn
          have hnl := Kd.C_max hCn
          have HND := Aside0.mk (fun j hj => rightB_true HRB.out (nd needs a) (nd_mem hal) j hj)
          have HNC := Aside0.mk (nextC_or (M := H) (a := (a : Int)) (l := nd needs a))
          clear hln
          go_wp2_with (fail)
          generalize hl : nd needs a = l at *
          have HLn := Aside0.mk hl
          clear hl
          go_loopw [4, 41] (fun v4 i wr => ∃ j : Nat, j ≤ l.length ∧ i = .int .i64 j ∧ v4 = .int .i64 (a : Int) ∧ Aside0 (nextC H (a : Int) l = nextC H (a : Int) (l.drop j)) ∧ wr = w8) (fun _ i _ => l.length - (intOf i).toNat)
          case atStart => exact ⟨0, Nat.zero_le _, rfl, rfl, ⟨by rw [List.drop_zero]⟩, rfl⟩
          case round =>
            obtain ⟨j, hj, rfl, rfl, HN, rfl⟩ := hrel
            by_cases hlj : j < l.length
            · obtain ⟨ad2, rfl, hcell⟩ := Kd.at_int hCn (j : Int) (by omega) (by omega)
              rw [Int.toNat_natCast] at hcell
              have hxr := HND.out (rd l (j : Int)) (rd_mem hlj)
              have HD := Aside0.mk (drop_rd hlj)
              generalize rd l (j : Int) = x at *
              obtain ⟨hx0, hx1⟩ := hxr
              have hwx : (Lit.int .i64 x).wf = true := wf64 (by omega) (by omega)
              have hkm := HM8.out
              cases hdn : (H x).isSome with
              | true =>
                have hdn' := Aside0.mk hdn
                clear hdn
                go_wp2_with (at_lookup; refine IM.look rfl _ _ 42 rfl Try.underlying42 Try.underlying3 Try.underlying3 (info3' _) rfl hkm x rfl hwx ?_; rw [hdn'.out])
                go_roundw
                case rel => exact ⟨j + 1, hlj, by go_num, rfl, ⟨by rw [HN.out, HD.out, nextC, if_pos hdn'.out]⟩, by first | exact trivial | rfl⟩
                case measure => simp [intOf]; omega
              | false =>
                have hdn' := Aside0.mk hdn
                clear hdn
                go_wp2_with (at_lookup; refine IM.look rfl _ _ 42 rfl Try.underlying42 Try.underlying3 Try.underlying3 (info3' _) rfl hkm x rfl hwx ?_; rw [hdn'.out])
                have hnx : nextC H (a : Int) l = x := by rw [HN.out, HD.out, nextC, if_neg (by rw [hdn'.out]; simp)]
                obtain ⟨x', rfl⟩ : ∃ x' : Nat, x = x' := ⟨x.toNat, by omega⟩
                go_roundg f
                case measure => omega
                case rel => exact ⟨x', way ++ [(a : Int)], A8, c8, rfl, by rw [HWL.out], by omega, by rw [HWL.out]; omega, ⟨by rw [List.nodup_append]; exact ⟨HW.out.1, by simp, fun p hp q hq => by simp at hq; subst hq; exact fun e => HNM.out (e ▸ hp)⟩, fun p hp => by
                    rcases List.mem_append.1 hp with h | h
                    · exact HW.out.2 p h
                    · simp at h; subst h; omega⟩, ⟨by rw [HC2.out, hnx]⟩, ⟨by rw [HWL.out]; exact HR8.out⟩, HM8, HBA8, HBG8, HB8⟩
            · obtain rfl : j = l.length := by omega
              have hnx : nextC H (a : Int) l = (a : Int) := by rw [HN.out, List.drop_length]; rfl
              have HNX := Aside0.mk hnx
              clear hnx
              go_wp2_with (fail)
              go_roundg f
              case measure => omega
              case rel => exact ⟨a, way ++ [(a : Int)], A8, c8, rfl, by rw [HWL.out], hal, by rw [HWL.out]; omega, ⟨by rw [List.nodup_append]; exact ⟨HW.out.1, by simp, fun p hp q hq => by simp at hq; subst hq; exact fun e => HNM.out (e ▸ hp)⟩, fun p hp => by
                    rcases List.mem_append.1 hp with h | h
                    · exact HW.out.2 p h
                    · simp at h; subst h; omega⟩, ⟨by rw [HC2.out, HNX.out]⟩, ⟨by rw [HWL.out]; exact HR8.out⟩, HM8, HBA8, HBG8, HB8⟩
end Go.Proofs.Ytdknnekkbhpjlaa.H
namespace Go.Proofs.Ytdknnekkbhpjlaa.G
open Go.RowKit Go.Proofs.YtdknnekkbhpjlaaW.PrintWords Go.Proofs.YtdknnekkbhpjlaaW.PrintLast Go.Proofs.YtdknnekkbhpjlaaW.PrintMore
open H

def graph_Circle.f (l : List (List Int)) : Option (List Int) := if Lens l then some (circleP l) else none
theorem graph_Circle.ok {l : List (List Int)} (h : Lens l) : graph_Circle.f l = some (circleP l) := if_pos h
theorem graph_Circle.calls (A0 : Option Addr) (c0 : Nat) (l0 : List (List Int)) (r : List Int) (w : World) (hr0 : Kd.C (Kd.slice 3 (Kd.int .i64)) w A0 l0.length l0) (hc0 : l0.length ≤ c0) (h : graph_Circle.f l0 = some r) :
    Calls Try.prog 12 #[.slice A0 l0.length c0] w fun e w' => ∃ v0_ : Value, e = .returned v0_ ∧ Kd.Q (Kd.int .i64) 3 w' w.heap.size (fun _ => True) v0_ r ∧ Below w.heap.size w w' := by
  by_cases hk : Lens l0
  · rw [graph_Circle.ok hk] at h
    injection h with h
    subst h
    exact circle_calls _ _ _ w hr0 hc0 hk
  · rw [show graph_Circle.f l0 = none from if_neg hk] at h
    cases h
end Go.Proofs.Ytdknnekkbhpjlaa.G
