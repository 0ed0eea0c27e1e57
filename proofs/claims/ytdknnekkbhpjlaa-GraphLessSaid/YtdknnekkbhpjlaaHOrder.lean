/- slices.Grow of nil, slices.Concat, graph.Order, walked: the levels, one behind the other. Condition: there are at most 1000 things, of at most 1000 needs each. -/
import Derived.Test.YtdknnekkbhpjlaaHLevels
set_option linter.unusedVariables false
set_option linter.unusedSimpArgs false
namespace Go.Proofs.Ytdknnekkbhpjlaa.H
open Go.RowKit Go.Proofs.YtdknnekkbhpjlaaW.PrintWords Go.Proofs.YtdknnekkbhpjlaaW.PrintLast Go.Proofs.YtdknnekkbhpjlaaW.PrintMore Go.Proofs.Ytdknnekkbhpjlaa.G

theorem i3' : ∃ i : TypeInfo, Try.prog.info? 3 = some i ∧ i.size = 1 := by
  have h := info3
  cases e : Try.prog.info? 3 with
  | none => rw [e] at h; cases h
  | some i =>
    rw [e] at h
    injection h with h
    injection h with _ h
    injection h with h _
    exact ⟨i, rfl, h⟩
set_option maxHeartbeats 1000000 in
theorem grow_calls (n : Nat) (w : World) (hn : n ≤ 2000000) : Calls Try.prog 34 #[.slice none 0 0, .int .i64 n] w fun e w' => ∃ v, e = .returned v ∧ Kd.R (Kd.int .i64) 3 w' w.heap.size (fun _ => True) v [] ∧ Below w.heap.size w w' := by
  obtain ⟨ti, hi3, hs3⟩ := i3'
  by_cases h0 : n = 0
  · subst h0
    go_enter Try.func34, Try.ntmps34
    go_wp2_with (fail)
    go_ret
    exact ⟨_, rfl, Kd.R_nil _ _ _ _ _, Below.refl _ _⟩
  · have hn0 : 0 < n := by omega
    have c1 := cut_to (P := Try.prog) 25 3 .i64 Try.underlying25 hi3 none 0 0 0 (by omega) (by omega) (by omega)
    go_enter Try.func34, Try.ntmps34
    go_wp2_with (at_builtin; refine Kd.R_append_zeros (Kd.int .i64) (w0 := w) w.heap.size rfl (.tmp 20) (.tmp 21) 25 3 3 (.int .i64 0) 8 rfl Try.underlying25 Try.underlying3 info3 rfl (by decide) (by omega) (.slice none 0 0) [] 0 (n : Int) (fun _ => True) rfl rfl rfl (fun _ _ => trivial) (Kd.R_nil _ _ _ _ _) (by omega) (Below.refl _ _) (Nat.le_refl _) (by simp; omega) ?_)
    intro v1 w1 hR hB hg hat
    obtain ⟨A1, n1, c1', rfl⟩ := R_slicen hR
    have hle := (Kd.R_reads' hR).2.1
    have c2 := cut_to (P := Try.prog) 25 3 .i64 Try.underlying25 hi3 A1 n1 c1' 0 (by omega) (by omega) hle
    have HR := Aside0.mk (Kd.R_take hR (m := 0) (Nat.zero_le _))
    clear hR hg hat hle
    go_wp2_with (fail)
    go_ret
    exact ⟨_, rfl, HR.out, hB⟩

def sumTo (rows : List (List Int)) : Nat → Nat
  | 0 => 0
  | k + 1 => sumTo rows k + (nd rows k).length
theorem sumTo_le {rows : List (List Int)} (h : ∀ l ∈ rows, l.length ≤ 1000) : ∀ k, k ≤ rows.length → sumTo rows k ≤ k * 1000
  | 0, _ => Nat.le_refl _
  | k + 1, hk => by
    have h1 := sumTo_le h k (by omega)
    have h2 := h _ (nd_mem (needs := rows) (i := k) (by omega))
    have h3 : (k + 1) * 1000 = k * 1000 + 1000 := Nat.succ_mul _ _
    simp only [sumTo]
    omega
theorem flat_succ {rows : List (List Int)} {k : Nat} (hk : k < rows.length) : (rows.take (k + 1)).flatten = (rows.take k).flatten ++ nd rows k := by
  rw [List.take_succ_eq_append_getElem hk, List.flatten_append]
  unfold nd
  rw [List.getD_eq_getElem?_getD, List.getElem?_eq_getElem hk]
  simp
theorem flat_len {rows : List (List Int)} : ∀ k, k ≤ rows.length → (rows.take k).flatten.length = sumTo rows k
  | 0, _ => by simp [sumTo]
  | k + 1, hk => by rw [flat_succ (by omega), List.length_append, flat_len k (by omega)]; rfl

set_option maxHeartbeats 4000000 in
theorem concat_calls (A : Option Addr) (c : Nat) (rows : List (List Int)) (w : World) (hr : Kd.C KI w A rows.length rows) (hc : rows.length ≤ c) (hl : rows.length ≤ 1001) (hrow : ∀ l ∈ rows, l.length ≤ 1000) :
    Calls Try.prog 31 #[.slice A rows.length c] w fun e w' => ∃ v, e = .returned v ∧ Kd.R (Kd.int .i64) 3 w' w.heap.size (fun _ => True) v rows.flatten ∧ Below w.heap.size w w' := by
  have HS := Aside0.mk (fun k hk => sumTo_le hrow k hk)
  go_enter Try.func31, Try.ntmps31
  go_wp2_with (fail)
  go_loop [3, 11] (fun v3 i => ∃ k : Nat, k ≤ rows.length ∧ i = .int .i64 k ∧ v3 = .int .i64 (sumTo rows k)) (fun _ i => rows.length - (intOf i).toNat)
  case atStart => exact ⟨0, Nat.zero_le _, rfl, rfl⟩
  case round =>
    obtain ⟨k, hk, rfl, rfl⟩ := hrel
    have hs := HS.out k hk
    by_cases hlt : k < rows.length
    · obtain ⟨ad, A0, c0, rfl, x0, hl0, hC0⟩ := at_L1 hr (k : Int) (by omega) (by omega)
      rw [rd_nd] at x0 hl0 hC0
      rw [Int.toNat_natCast] at x0
      have hrl := hrow _ (nd_mem hlt)
      go_wp2_with (fail)
      go_round
      case rel => exact ⟨k + 1, hlt, by go_num, by simp only [sumTo]; go_num⟩
      case measure => simp [intOf]; omega
    · obtain rfl : k = rows.length := by omega
      go_wp2_with (fail)
      refine (grow_calls (sumTo rows rows.length) w (by omega)).mono ?_
      rintro e w1 ⟨v, rfl, hR1, hB1⟩
      obtain ⟨A1, c1, rfl⟩ := Kd.R_slice hR1
      have hr1 := Kd.C_below hr hB1
      go_wp2_with (fail)
      go_loopw [6, 27] (fun v6 i wr => ∃ (k : Nat) (A6 : Option Addr) (c6 : Nat), k ≤ rows.length ∧ i = .int .i64 k ∧ v6 = .slice A6 (rows.take k).flatten.length c6 ∧ Aside0 (Kd.R (Kd.int .i64) 3 wr w.heap.size (fun _ => True) (.slice A6 (rows.take k).flatten.length c6) (rows.take k).flatten) ∧ Aside0 (Below w.heap.size w wr)) (fun _ i _ => rows.length - (intOf i).toNat)
      case atStart => exact ⟨0, A1, c1, Nat.zero_le _, rfl, rfl, ⟨hR1⟩, ⟨hB1⟩⟩
      case round =>
        clear hR1 hB1 hr1
        obtain ⟨k, A6, c6, hk, rfl, rfl, HR, HB⟩ := hrel
        obtain ⟨wo, rfl⟩ : ∃ wo : World, wo = wr := ⟨_, rfl⟩
        by_cases hlt : k < rows.length
        · obtain ⟨ad, A0, c0, rfl, x0, hl0, hC0⟩ := at_L1 (Kd.C_below hr HB.out) (k : Int) (by omega) (by omega)
          rw [rd_nd] at x0 hl0 hC0
          rw [Int.toNat_natCast] at x0
          have hrl := hrow _ (nd_mem hlt)
          have hfl := flat_len (rows := rows) k hk
          have hsk := HS.out k hk
          have HFS := Aside0.mk (flat_succ hlt)
          generalize (rows.take k).flatten = xs at *
          generalize nd rows k = l at *
          have hxl : xs.length ≤ k * 1000 := by omega
          have hxl2 : xs.length ≤ 2000000 := by omega
          clear hfl hsk hxl
          have hsz := HB.out.size
          go_wp2_with (at_builtin; refine Kd.R_append_rows (Kd.int .i64) (w0 := wo) w.heap.size rfl (.tmp 31) (.tmp 32) 25 3 (.int .i64 0) 8 rfl Try.underlying25 info3 rfl (by decide) (by omega) (.slice A6 xs.length c6) xs l A0 l.length c0 (fun _ => True) (fun _ => False) rfl rfl HR.out hC0 (fun _ _ h => h) (fun _ h => h.elim) (fun _ _ => trivial) (Below.refl _ _) hsz (by omega) ?_)
          intro v1 w5 hR5 hB5 hg5 hat5
          obtain ⟨A7, c7, rfl⟩ := Kd.R_slice hR5
          have HR5 := Aside0.mk hR5
          have HB5 := Aside0.mk (HB.out.grown hg5 hsz (fun q e => (Kd.R_bound HR.out).1 q e |>.2.1))
          clear hR5 hB5 hg5 hat5
          go_wp2_with (fail)
          go_roundw
          case rel => exact ⟨k + 1, A7, c7, hlt, by go_num, by rw [HFS.out], ⟨by rw [HFS.out]; exact HR5.out⟩, HB5⟩
          case measure => simp [intOf]; omega
        · obtain rfl : k = rows.length := by omega
          go_wp2_with (fail)
          go_ret
          exact ⟨_, rfl, by have h := HR.out; rw [List.take_length] at h; rw [List.take_length]; exact h, HB.out⟩

def orderP (needs : List (List Int)) : List Int × Int := if (levelsP needs).2 = 0 then ((levelsP needs).1.flatten, 0) else ([], (levelsP needs).2)
theorem levelsP_len {needs : List (List Int)} (hL : Lens needs) : (levelsP needs).1.length ≤ 1001 ∧ ∀ l ∈ (levelsP needs).1, l.length ≤ 1000 := by
  unfold levelsP
  split
  · split
    · simp
    · next h =>
      have h1 := cnt_le (hts needs) needs.length
      have h2 := lvTo_length (hts_lev needs) needs.length
      have h3 := hL.1
      exact ⟨by dsimp only; omega, fun l hl => Nat.le_trans (lvTo_row _ l hl) h3⟩
  · simp
set_option maxHeartbeats 1000000 in
theorem order_calls (A : Option Addr) (c : Nat) (needs : List (List Int)) (w : World) (hr : Kd.C KI w A needs.length needs) (hc : needs.length ≤ c) (hL : Lens needs) :
    Calls Try.prog 16 #[.slice A needs.length c] w fun e w' => ∃ v, e = .returned (.tuple #[v, .int .i64 (orderP needs).2]) ∧ Kd.R (Kd.int .i64) 3 w' w.heap.size (fun _ => True) v (orderP needs).1 ∧ Below w.heap.size w w' := by
  obtain ⟨hl1, hl2⟩ := levelsP_len hL
  have HL := Aside0.mk hl2
  clear hl2
  obtain ⟨op, hop⟩ : ∃ op, op = orderP needs := ⟨_, rfl⟩
  rw [← hop]
  have HOP := Aside0.mk hop
  clear hop
  by_cases he : (levelsP needs).2 = 0
  · have e : op = ((levelsP needs).1.flatten, 0) := by rw [HOP.out]; unfold orderP; rw [if_pos he]
    subst e
    have HE := Aside0.mk he
    clear he HOP
    go_enter Try.func16, Try.ntmps16
    go_wp2_with (fail)
    refine (levels_calls A c needs w hr hc hL).mono ?_
    rintro e w1 ⟨v, rfl, hS, hB⟩
    obtain ⟨A1, c1, rfl, hle1, hC1⟩ := Kd.S_reads hS
    rw [HE.out]
    clear hS
    go_wp2_with (fail)
    refine (concat_calls A1 c1 _ w1 hC1 hle1 hl1 HL.out).mono ?_
    rintro e w2 ⟨v, rfl, hR, hB2⟩
    have HB := Aside0.mk (below_then hB hB.size hB2)
    have HR := Aside0.mk (Kd.R_lower hR hB.size)
    clear hB hB2 hR
    go_wp2_with (fail)
    go_ret2
    exact ⟨_, rfl, HR.out, HB.out⟩
  · have e : op = ([], (levelsP needs).2) := by rw [HOP.out]; unfold orderP; rw [if_neg he]
    subst e
    clear HOP
    have hee : ((levelsP needs).2 != 0) = true := by simpa using he
    obtain ⟨er, her⟩ : ∃ er, er = (levelsP needs).2 := ⟨_, rfl⟩
    rw [← her] at hee he ⊢
    have HER := Aside0.mk her
    clear her
    go_enter Try.func16, Try.ntmps16
    go_wp2_with (fail)
    refine (levels_calls A c needs w hr hc hL).mono ?_
    rintro e w1 ⟨v, rfl, hS, hB⟩
    clear hS
    rw [← HER.out]
    go_wp2_with (fail)
    go_ret2
    exact ⟨_, rfl, Kd.R_nil _ _ _ _ _, hB⟩
end Go.Proofs.Ytdknnekkbhpjlaa.H
namespace Go.Proofs.Ytdknnekkbhpjlaa.G
open Go.RowKit Go.Proofs.YtdknnekkbhpjlaaW.PrintWords Go.Proofs.YtdknnekkbhpjlaaW.PrintLast Go.Proofs.YtdknnekkbhpjlaaW.PrintMore
open H

def graph_Order.f (l : List (List Int)) : Option (List Int × Int) := if Lens l then some (orderP l) else none
theorem graph_Order.ok {l : List (List Int)} (h : Lens l) : graph_Order.f l = some (orderP l) := if_pos h
theorem graph_Order.calls (A0 : Option Addr) (c0 : Nat) (l0 : List (List Int)) (r1 : List Int) (r2 : Int) (w : World) (hr0 : Kd.C (Kd.slice 3 (Kd.int .i64)) w A0 l0.length l0) (hc0 : l0.length ≤ c0) (h : graph_Order.f l0 = some (r1, r2)) :
    Calls Try.prog 16 #[.slice A0 l0.length c0] w fun e w' => ∃ v0_ : Value, e = .returned (.tuple #[v0_, .int .i64 r2]) ∧ Kd.R (Kd.int .i64) 3 w' w.heap.size (fun _ => True) v0_ r1 ∧ Below w.heap.size w w' := by
  by_cases hk : Lens l0
  · rw [graph_Order.ok hk] at h
    injection h with h
    have h1 : r1 = (orderP l0).1 := by rw [h]
    have h2 : r2 = (orderP l0).2 := by rw [h]
    subst h1 h2
    exact order_calls _ _ _ w hr0 hc0 hk
  · rw [show graph_Order.f l0 = none from if_neg hk] at h
    cases h
end Go.Proofs.Ytdknnekkbhpjlaa.G
