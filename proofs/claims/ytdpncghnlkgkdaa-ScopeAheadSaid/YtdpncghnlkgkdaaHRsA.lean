/- seedcornref14.RightStmt, RightStmts, walked: may a statement be? Condition: the trees lie in memory. -/
import Derived.Test.YtdpncghnlkgkdaaHReD
set_option linter.unusedVariables false
set_option linter.unusedSimpArgs false
namespace Go.Proofs.Ytdpncghnlkgkdaa.H
open Go.RowKit Go.Proofs.YtdpncghnlkgkdaaW.PrintWords Go.Proofs.YtdpncghnlkgkdaaW.PrintLast Go.Proofs.YtdpncghnlkgkdaaW.PrintMore Go.Proofs.Ytdpncghnlkgkdaa.G
private theorem zeroOr (n : Nat) : decide (0 < n) = false ∨ decide (0 < n) = true := by
  rcases Nat.eq_zero_or_pos n with h | h <;> simp [h]
set_option maxHeartbeats 16000000 in
set_option maxRecDepth 100000 in
theorem stmt_k1 {d : Nat} (hd : d ≤ 24) (hE : ExprsOk d) (hS : StmtsOk d) (s : ByteArray) (es : List S37) (th el : List S33) (A2 A3 A4 : Option Addr) (c2 c3 c4 : Nat) (w : World) (hr2 : k37.C w A2 es.length es) (hl2 : es.length ≤ c2) (hr3 : k33.C w A3 th.length th) (hl3 : th.length ≤ c3) (hr4 : k33.C w A4 el.length el) (hl4 : el.length ≤ c4) :
    Calls Try.prog 64 #[.agg #[.int .i64 1, .string s, .slice A2 es.length c2, .slice A3 th.length c3, .slice A4 el.length c4], .int .i64 (25 - ((d + 1 : Nat) : Int))] w fun en w' => en = .returned (.bool (rightS (d + 1) ⟨1, s, es, th, el⟩)) ∧ Below w.heap.size w w' := by
  have HR2 := Aside0.mk hr2
  have HR3 := Aside0.mk hr3
  have HR4 := Aside0.mk hr4
  have H2 := Aside0.mk (hE es A2 c2)
  have H3 := Aside0.mk (hS th A3 c3)
  have H4 := Aside0.mk (hS el A4 c4)
  have m2 := Kd.C_max hr2
  have m3 := Kd.C_max hr3
  have m4 := Kd.C_max hr4
  obtain ⟨b2, hb2⟩ : ∃ b, b = es.all (rightE d) := ⟨_, rfl⟩
  obtain ⟨b3, hb3⟩ : ∃ b, b = th.all (rightS d) := ⟨_, rfl⟩
  obtain ⟨b4, hb4⟩ : ∃ b, b = el.all (rightS d) := ⟨_, rfl⟩
  obtain ⟨nb, hnb⟩ : ∃ nb, nb = isNameB s := ⟨_, rfl⟩
  have HNB := Aside0.mk hnb.symm
  have HNC : Aside0 (∀ w : World, Calls Try.prog 50 #[.string s] w fun e w' => e = .returned (.bool nb) ∧ Below w.heap.size w w') := ⟨fun w => by rw [hnb]; exact isName_calls s w⟩
  obtain ⟨res, hres⟩ : ∃ res, res = rightS (d + 1) ⟨1, s, es, th, el⟩ := ⟨_, rfl⟩
  have HRES : Aside0 (res = (headS 1 s th.length el.length && leafS 1 es.length && b2 && b3 && b4)) := ⟨by rw [hres, hb2, hb3, hb4]; rfl⟩
  obtain ⟨lv, hlv⟩ : ∃ lv, lv = 25 - ((d + 1 : Nat) : Int) := ⟨_, rfl⟩
  rw [← hb2, show (25 - (d : Int)) = lv + 1 by omega] at H2
  rw [← hb3, show (25 - (d : Int)) = lv + 1 by omega] at H3
  rw [← hb4, show (25 - (d : Int)) = lv + 1 by omega] at H4
  obtain ⟨n3, hn3⟩ : ∃ n, n = th.length := ⟨_, rfl⟩
  obtain ⟨n4, hn4⟩ : ∃ n, n = el.length := ⟨_, rfl⟩
  rw [← hn3, ← hn4] at HRES
  rw [← hn3] at H3 HR3 hl3 m3
  rw [← hn4] at H4 HR4 hl4 m4
  rw [← hres, ← hlv, ← hn3, ← hn4]
  clear hn3 hn4
  have l1 : lv ≤ 24 := by omega
  have l2 : 0 ≤ lv := by omega
  have HBK1 := Aside0.mk (blk_new w (.cells #[.int .i64 1, .string s, .slice A2 es.length c2, .slice A3 n3 c3, .slice A4 n4 c4] 33))
  have HB1 := Aside0.mk (below_alloc (Below.refl w.heap.size w) (.cells #[.int .i64 1, .string s, .slice A2 es.length c2, .slice A3 n3 c3, .slice A4 n4 c4] 33))
  have hc2 := Aside0.mk hl2
  have hc3 := Aside0.mk hl3
  have hc4 := Aside0.mk hl4
  clear hr2 hr3 hr4 hE hS hb2 hb3 hb4 hres hlv hd hl2 hl3 hl4 hnb
  rcases emptyOr s with ⟨hs, hs2⟩ | ⟨hs, hs2⟩ <;> cases nb <;> rcases zeroOr n3 with ht | ht <;> rcases zeroOr n4 with he | he
  all_goals
    have HNN := HNB.out
    go_enter Try.func64, Try.ntmps64
    go_wp2_with (first | (go_at_call 50; refine (HNC.out _).mono ?_; rintro en w5 ⟨rfl, hB5⟩; have HB5 : Aside0 (Below w.heap.size w w5) := ⟨by first | exact below_then HB1.out HB1.out.size hB5⟩; have HBK5 : Aside0 (w5.heap[w.heap.size]? = some (.cells #[.int .i64 1, .string s, .slice A2 es.length c2, .slice A3 n3 c3, .slice A4 n4 c4] 33 (0, 0))) := ⟨by first | exact blk_below HBK1.out hB5⟩; have z0 : w5.cell? ⟨w.heap.size, 0, none⟩ = some (.int .i64 1) := (blk_cell HBK5.out 0).trans rfl; have z1 : w5.cell? ⟨w.heap.size, 1, none⟩ = some (.string s) := (blk_cell HBK5.out 1).trans rfl; have z2 : w5.cell? ⟨w.heap.size, 2, none⟩ = some (.slice A2 es.length c2) := (blk_cell HBK5.out 2).trans rfl; have z3 : w5.cell? ⟨w.heap.size, 3, none⟩ = some (.slice A3 n3 c3) := (blk_cell HBK5.out 3).trans rfl; have z4 : w5.cell? ⟨w.heap.size, 4, none⟩ = some (.slice A4 n4 c4) := (blk_cell HBK5.out 4).trans rfl; clear hB5) | (go_at_call 83; refine (H2.out _ (by first | exact Kd.C_below HR2.out HB5.out | exact Kd.C_below HR2.out HB1.out) hc2.out).mono ?_; rintro en w6 ⟨rfl, hB6⟩; have HB6 : Aside0 (Below w.heap.size w w6) := ⟨by first | exact below_then HB5.out HB5.out.size hB6 | exact below_then HB1.out HB1.out.size hB6⟩; have HBK6 : Aside0 (w6.heap[w.heap.size]? = some (.cells #[.int .i64 1, .string s, .slice A2 es.length c2, .slice A3 n3 c3, .slice A4 n4 c4] 33 (0, 0))) := ⟨by first | exact blk_below HBK5.out hB6 | exact blk_below HBK1.out hB6⟩; have y0 : w6.cell? ⟨w.heap.size, 0, none⟩ = some (.int .i64 1) := (blk_cell HBK6.out 0).trans rfl; have y1 : w6.cell? ⟨w.heap.size, 1, none⟩ = some (.string s) := (blk_cell HBK6.out 1).trans rfl; have y2 : w6.cell? ⟨w.heap.size, 2, none⟩ = some (.slice A2 es.length c2) := (blk_cell HBK6.out 2).trans rfl; have y3 : w6.cell? ⟨w.heap.size, 3, none⟩ = some (.slice A3 n3 c3) := (blk_cell HBK6.out 3).trans rfl; have y4 : w6.cell? ⟨w.heap.size, 4, none⟩ = some (.slice A4 n4 c4) := (blk_cell HBK6.out 4).trans rfl; clear hB6) | (go_at_call 51; (with_reducible refine (H3.out _ ?cc hc3.out).mono ?_); (case cc => exact Kd.C_below HR3.out HB6.out); rintro en w7 ⟨rfl, hB7⟩; have HB7 : Aside0 (Below w.heap.size w w7) := ⟨by first | exact below_then HB6.out HB6.out.size hB7⟩; have HBK7 : Aside0 (w7.heap[w.heap.size]? = some (.cells #[.int .i64 1, .string s, .slice A2 es.length c2, .slice A3 n3 c3, .slice A4 n4 c4] 33 (0, 0))) := ⟨by first | exact blk_below HBK6.out hB7⟩; have x0 : w7.cell? ⟨w.heap.size, 0, none⟩ = some (.int .i64 1) := (blk_cell HBK7.out 0).trans rfl; have x1 : w7.cell? ⟨w.heap.size, 1, none⟩ = some (.string s) := (blk_cell HBK7.out 1).trans rfl; have x2 : w7.cell? ⟨w.heap.size, 2, none⟩ = some (.slice A2 es.length c2) := (blk_cell HBK7.out 2).trans rfl; have x3 : w7.cell? ⟨w.heap.size, 3, none⟩ = some (.slice A3 n3 c3) := (blk_cell HBK7.out 3).trans rfl; have x4 : w7.cell? ⟨w.heap.size, 4, none⟩ = some (.slice A4 n4 c4) := (blk_cell HBK7.out 4).trans rfl; clear hB7) | (go_at_call 51; (with_reducible refine (H4.out _ ?cc hc4.out).mono ?_); (case cc => exact Kd.C_below HR4.out HB7.out); rintro en w8 ⟨rfl, hB8⟩; have HB8 : Aside0 (Below w.heap.size w w8) := ⟨by first | exact below_then HB7.out HB7.out.size hB8⟩; have HBK8 : Aside0 (w8.heap[w.heap.size]? = some (.cells #[.int .i64 1, .string s, .slice A2 es.length c2, .slice A3 n3 c3, .slice A4 n4 c4] 33 (0, 0))) := ⟨by first | exact blk_below HBK7.out hB8⟩; have v0 : w8.cell? ⟨w.heap.size, 0, none⟩ = some (.int .i64 1) := (blk_cell HBK8.out 0).trans rfl; have v1 : w8.cell? ⟨w.heap.size, 1, none⟩ = some (.string s) := (blk_cell HBK8.out 1).trans rfl; have v2 : w8.cell? ⟨w.heap.size, 2, none⟩ = some (.slice A2 es.length c2) := (blk_cell HBK8.out 2).trans rfl; have v3 : w8.cell? ⟨w.heap.size, 3, none⟩ = some (.slice A3 n3 c3) := (blk_cell HBK8.out 3).trans rfl; have v4 : w8.cell? ⟨w.heap.size, 4, none⟩ = some (.slice A4 n4 c4) := (blk_cell HBK8.out 4).trans rfl; clear hB8))
    all_goals
      go_ret
      refine ⟨?_, by first | exact HB8.out | exact HB7.out | exact HB6.out | exact HB5.out | exact HB1.out⟩
      rw [HRES.out]
      first | (simp [headS, leafS, namedS, *]; done) | (simp [headS, leafS, namedS, *]; intros; omega)
set_option maxHeartbeats 16000000 in
set_option maxRecDepth 100000 in
theorem stmt_k2 {d : Nat} (hd : d ≤ 24) (hE : ExprsOk d) (hS : StmtsOk d) (s : ByteArray) (es : List S37) (th el : List S33) (A2 A3 A4 : Option Addr) (c2 c3 c4 : Nat) (w : World) (hr2 : k37.C w A2 es.length es) (hl2 : es.length ≤ c2) (hr3 : k33.C w A3 th.length th) (hl3 : th.length ≤ c3) (hr4 : k33.C w A4 el.length el) (hl4 : el.length ≤ c4) :
    Calls Try.prog 64 #[.agg #[.int .i64 2, .string s, .slice A2 es.length c2, .slice A3 th.length c3, .slice A4 el.length c4], .int .i64 (25 - ((d + 1 : Nat) : Int))] w fun en w' => en = .returned (.bool (rightS (d + 1) ⟨2, s, es, th, el⟩)) ∧ Below w.heap.size w w' := by
  have HR2 := Aside0.mk hr2
  have HR3 := Aside0.mk hr3
  have HR4 := Aside0.mk hr4
  have H2 := Aside0.mk (hE es A2 c2)
  have H3 := Aside0.mk (hS th A3 c3)
  have H4 := Aside0.mk (hS el A4 c4)
  have m2 := Kd.C_max hr2
  have m3 := Kd.C_max hr3
  have m4 := Kd.C_max hr4
  obtain ⟨b2, hb2⟩ : ∃ b, b = es.all (rightE d) := ⟨_, rfl⟩
  obtain ⟨b3, hb3⟩ : ∃ b, b = th.all (rightS d) := ⟨_, rfl⟩
  obtain ⟨b4, hb4⟩ : ∃ b, b = el.all (rightS d) := ⟨_, rfl⟩
  obtain ⟨nb, hnb⟩ : ∃ nb, nb = isNameB s := ⟨_, rfl⟩
  have HNB := Aside0.mk hnb.symm
  have HNC : Aside0 (∀ w : World, Calls Try.prog 50 #[.string s] w fun e w' => e = .returned (.bool nb) ∧ Below w.heap.size w w') := ⟨fun w => by rw [hnb]; exact isName_calls s w⟩
  obtain ⟨res, hres⟩ : ∃ res, res = rightS (d + 1) ⟨2, s, es, th, el⟩ := ⟨_, rfl⟩
  have HRES : Aside0 (res = (headS 2 s th.length el.length && leafS 2 es.length && b2 && b3 && b4)) := ⟨by rw [hres, hb2, hb3, hb4]; rfl⟩
  obtain ⟨lv, hlv⟩ : ∃ lv, lv = 25 - ((d + 1 : Nat) : Int) := ⟨_, rfl⟩
  rw [← hb2, show (25 - (d : Int)) = lv + 1 by omega] at H2
  rw [← hb3, show (25 - (d : Int)) = lv + 1 by omega] at H3
  rw [← hb4, show (25 - (d : Int)) = lv + 1 by omega] at H4
  obtain ⟨n3, hn3⟩ : ∃ n, n = th.length := ⟨_, rfl⟩
  obtain ⟨n4, hn4⟩ : ∃ n, n = el.length := ⟨_, rfl⟩
  rw [← hn3, ← hn4] at HRES
  rw [← hn3] at H3 HR3 hl3 m3
  rw [← hn4] at H4 HR4 hl4 m4
  rw [← hres, ← hlv, ← hn3, ← hn4]
  clear hn3 hn4
  have l1 : lv ≤ 24 := by omega
  have l2 : 0 ≤ lv := by omega
  have HBK1 := Aside0.mk (blk_new w (.cells #[.int .i64 2, .string s, .slice A2 es.length c2, .slice A3 n3 c3, .slice A4 n4 c4] 33))
  have HB1 := Aside0.mk (below_alloc (Below.refl w.heap.size w) (.cells #[.int .i64 2, .string s, .slice A2 es.length c2, .slice A3 n3 c3, .slice A4 n4 c4] 33))
  have hc2 := Aside0.mk hl2
  have hc3 := Aside0.mk hl3
  have hc4 := Aside0.mk hl4
  clear hr2 hr3 hr4 hE hS hb2 hb3 hb4 hres hlv hd hl2 hl3 hl4 hnb
  rcases emptyOr s with ⟨hs, hs2⟩ | ⟨hs, hs2⟩ <;> cases nb <;> rcases zeroOr n3 with ht | ht <;> rcases zeroOr n4 with he | he
  all_goals
    have HNN := HNB.out
    go_enter Try.func64, Try.ntmps64
    go_wp2_with (first | (go_at_call 50; refine (HNC.out _).mono ?_; rintro en w5 ⟨rfl, hB5⟩; have HB5 : Aside0 (Below w.heap.size w w5) := ⟨by first | exact below_then HB1.out HB1.out.size hB5⟩; have HBK5 : Aside0 (w5.heap[w.heap.size]? = some (.cells #[.int .i64 2, .string s, .slice A2 es.length c2, .slice A3 n3 c3, .slice A4 n4 c4] 33 (0, 0))) := ⟨by first | exact blk_below HBK1.out hB5⟩; have z0 : w5.cell? ⟨w.heap.size, 0, none⟩ = some (.int .i64 2) := (blk_cell HBK5.out 0).trans rfl; have z1 : w5.cell? ⟨w.heap.size, 1, none⟩ = some (.string s) := (blk_cell HBK5.out 1).trans rfl; have z2 : w5.cell? ⟨w.heap.size, 2, none⟩ = some (.slice A2 es.length c2) := (blk_cell HBK5.out 2).trans rfl; have z3 : w5.cell? ⟨w.heap.size, 3, none⟩ = some (.slice A3 n3 c3) := (blk_cell HBK5.out 3).trans rfl; have z4 : w5.cell? ⟨w.heap.size, 4, none⟩ = some (.slice A4 n4 c4) := (blk_cell HBK5.out 4).trans rfl; clear hB5) | (go_at_call 83; refine (H2.out _ (by first | exact Kd.C_below HR2.out HB5.out | exact Kd.C_below HR2.out HB1.out) hc2.out).mono ?_; rintro en w6 ⟨rfl, hB6⟩; have HB6 : Aside0 (Below w.heap.size w w6) := ⟨by first | exact below_then HB5.out HB5.out.size hB6 | exact below_then HB1.out HB1.out.size hB6⟩; have HBK6 : Aside0 (w6.heap[w.heap.size]? = some (.cells #[.int .i64 2, .string s, .slice A2 es.length c2, .slice A3 n3 c3, .slice A4 n4 c4] 33 (0, 0))) := ⟨by first | exact blk_below HBK5.out hB6 | exact blk_below HBK1.out hB6⟩; have y0 : w6.cell? ⟨w.heap.size, 0, none⟩ = some (.int .i64 2) := (blk_cell HBK6.out 0).trans rfl; have y1 : w6.cell? ⟨w.heap.size, 1, none⟩ = some (.string s) := (blk_cell HBK6.out 1).trans rfl; have y2 : w6.cell? ⟨w.heap.size, 2, none⟩ = some (.slice A2 es.length c2) := (blk_cell HBK6.out 2).trans rfl; have y3 : w6.cell? ⟨w.heap.size, 3, none⟩ = some (.slice A3 n3 c3) := (blk_cell HBK6.out 3).trans rfl; have y4 : w6.cell? ⟨w.heap.size, 4, none⟩ = some (.slice A4 n4 c4) := (blk_cell HBK6.out 4).trans rfl; clear hB6) | (go_at_call 51; (with_reducible refine (H3.out _ ?cc hc3.out).mono ?_); (case cc => exact Kd.C_below HR3.out HB6.out); rintro en w7 ⟨rfl, hB7⟩; have HB7 : Aside0 (Below w.heap.size w w7) := ⟨by first | exact below_then HB6.out HB6.out.size hB7⟩; have HBK7 : Aside0 (w7.heap[w.heap.size]? = some (.cells #[.int .i64 2, .string s, .slice A2 es.length c2, .slice A3 n3 c3, .slice A4 n4 c4] 33 (0, 0))) := ⟨by first | exact blk_below HBK6.out hB7⟩; have x0 : w7.cell? ⟨w.heap.size, 0, none⟩ = some (.int .i64 2) := (blk_cell HBK7.out 0).trans rfl; have x1 : w7.cell? ⟨w.heap.size, 1, none⟩ = some (.string s) := (blk_cell HBK7.out 1).trans rfl; have x2 : w7.cell? ⟨w.heap.size, 2, none⟩ = some (.slice A2 es.length c2) := (blk_cell HBK7.out 2).trans rfl; have x3 : w7.cell? ⟨w.heap.size, 3, none⟩ = some (.slice A3 n3 c3) := (blk_cell HBK7.out 3).trans rfl; have x4 : w7.cell? ⟨w.heap.size, 4, none⟩ = some (.slice A4 n4 c4) := (blk_cell HBK7.out 4).trans rfl; clear hB7) | (go_at_call 51; (with_reducible refine (H4.out _ ?cc hc4.out).mono ?_); (case cc => exact Kd.C_below HR4.out HB7.out); rintro en w8 ⟨rfl, hB8⟩; have HB8 : Aside0 (Below w.heap.size w w8) := ⟨by first | exact below_then HB7.out HB7.out.size hB8⟩; have HBK8 : Aside0 (w8.heap[w.heap.size]? = some (.cells #[.int .i64 2, .string s, .slice A2 es.length c2, .slice A3 n3 c3, .slice A4 n4 c4] 33 (0, 0))) := ⟨by first | exact blk_below HBK7.out hB8⟩; have v0 : w8.cell? ⟨w.heap.size, 0, none⟩ = some (.int .i64 2) := (blk_cell HBK8.out 0).trans rfl; have v1 : w8.cell? ⟨w.heap.size, 1, none⟩ = some (.string s) := (blk_cell HBK8.out 1).trans rfl; have v2 : w8.cell? ⟨w.heap.size, 2, none⟩ = some (.slice A2 es.length c2) := (blk_cell HBK8.out 2).trans rfl; have v3 : w8.cell? ⟨w.heap.size, 3, none⟩ = some (.slice A3 n3 c3) := (blk_cell HBK8.out 3).trans rfl; have v4 : w8.cell? ⟨w.heap.size, 4, none⟩ = some (.slice A4 n4 c4) := (blk_cell HBK8.out 4).trans rfl; clear hB8))
    all_goals
      go_ret
      refine ⟨?_, by first | exact HB8.out | exact HB7.out | exact HB6.out | exact HB5.out | exact HB1.out⟩
      rw [HRES.out]
      first | (simp [headS, leafS, namedS, *]; done) | (simp [headS, leafS, namedS, *]; intros; omega)
set_option maxHeartbeats 16000000 in
set_option maxRecDepth 100000 in
theorem stmt_k3 {d : Nat} (hd : d ≤ 24) (hE : ExprsOk d) (hS : StmtsOk d) (s : ByteArray) (es : List S37) (th el : List S33) (A2 A3 A4 : Option Addr) (c2 c3 c4 : Nat) (w : World) (hr2 : k37.C w A2 es.length es) (hl2 : es.length ≤ c2) (hr3 : k33.C w A3 th.length th) (hl3 : th.length ≤ c3) (hr4 : k33.C w A4 el.length el) (hl4 : el.length ≤ c4) :
    Calls Try.prog 64 #[.agg #[.int .i64 3, .string s, .slice A2 es.length c2, .slice A3 th.length c3, .slice A4 el.length c4], .int .i64 (25 - ((d + 1 : Nat) : Int))] w fun en w' => en = .returned (.bool (rightS (d + 1) ⟨3, s, es, th, el⟩)) ∧ Below w.heap.size w w' := by
  have HR2 := Aside0.mk hr2
  have HR3 := Aside0.mk hr3
  have HR4 := Aside0.mk hr4
  have H2 := Aside0.mk (hE es A2 c2)
  have H3 := Aside0.mk (hS th A3 c3)
  have H4 := Aside0.mk (hS el A4 c4)
  have m2 := Kd.C_max hr2
  have m3 := Kd.C_max hr3
  have m4 := Kd.C_max hr4
  obtain ⟨b2, hb2⟩ : ∃ b, b = es.all (rightE d) := ⟨_, rfl⟩
  obtain ⟨b3, hb3⟩ : ∃ b, b = th.all (rightS d) := ⟨_, rfl⟩
  obtain ⟨b4, hb4⟩ : ∃ b, b = el.all (rightS d) := ⟨_, rfl⟩
  obtain ⟨nb, hnb⟩ : ∃ nb, nb = isNameB s := ⟨_, rfl⟩
  have HNB := Aside0.mk hnb.symm
  have HNC : Aside0 (∀ w : World, Calls Try.prog 50 #[.string s] w fun e w' => e = .returned (.bool nb) ∧ Below w.heap.size w w') := ⟨fun w => by rw [hnb]; exact isName_calls s w⟩
  obtain ⟨res, hres⟩ : ∃ res, res = rightS (d + 1) ⟨3, s, es, th, el⟩ := ⟨_, rfl⟩
  have HRES : Aside0 (res = (headS 3 s th.length el.length && leafS 3 es.length && b2 && b3 && b4)) := ⟨by rw [hres, hb2, hb3, hb4]; rfl⟩
  obtain ⟨lv, hlv⟩ : ∃ lv, lv = 25 - ((d + 1 : Nat) : Int) := ⟨_, rfl⟩
  rw [← hb2, show (25 - (d : Int)) = lv + 1 by omega] at H2
  rw [← hb3, show (25 - (d : Int)) = lv + 1 by omega] at H3
  rw [← hb4, show (25 - (d : Int)) = lv + 1 by omega] at H4
  obtain ⟨n3, hn3⟩ : ∃ n, n = th.length := ⟨_, rfl⟩
  obtain ⟨n4, hn4⟩ : ∃ n, n = el.length := ⟨_, rfl⟩
  rw [← hn3, ← hn4] at HRES
  rw [← hn3] at H3 HR3 hl3 m3
  rw [← hn4] at H4 HR4 hl4 m4
  rw [← hres, ← hlv, ← hn3, ← hn4]
  clear hn3 hn4
  have l1 : lv ≤ 24 := by omega
  have l2 : 0 ≤ lv := by omega
  have HBK1 := Aside0.mk (blk_new w (.cells #[.int .i64 3, .string s, .slice A2 es.length c2, .slice A3 n3 c3, .slice A4 n4 c4] 33))
  have HB1 := Aside0.mk (below_alloc (Below.refl w.heap.size w) (.cells #[.int .i64 3, .string s, .slice A2 es.length c2, .slice A3 n3 c3, .slice A4 n4 c4] 33))
  have hc2 := Aside0.mk hl2
  have hc3 := Aside0.mk hl3
  have hc4 := Aside0.mk hl4
  clear hr2 hr3 hr4 hE hS hb2 hb3 hb4 hres hlv hd hl2 hl3 hl4 hnb
  rcases emptyOr s with ⟨hs, hs2⟩ | ⟨hs, hs2⟩ <;> cases nb <;> rcases zeroOr n3 with ht | ht <;> rcases zeroOr n4 with he | he
  all_goals
    have HNN := HNB.out
    go_enter Try.func64, Try.ntmps64
    go_wp2_with (first | (go_at_call 50; refine (HNC.out _).mono ?_; rintro en w5 ⟨rfl, hB5⟩; have HB5 : Aside0 (Below w.heap.size w w5) := ⟨by first | exact below_then HB1.out HB1.out.size hB5⟩; have HBK5 : Aside0 (w5.heap[w.heap.size]? = some (.cells #[.int .i64 3, .string s, .slice A2 es.length c2, .slice A3 n3 c3, .slice A4 n4 c4] 33 (0, 0))) := ⟨by first | exact blk_below HBK1.out hB5⟩; have z0 : w5.cell? ⟨w.heap.size, 0, none⟩ = some (.int .i64 3) := (blk_cell HBK5.out 0).trans rfl; have z1 : w5.cell? ⟨w.heap.size, 1, none⟩ = some (.string s) := (blk_cell HBK5.out 1).trans rfl; have z2 : w5.cell? ⟨w.heap.size, 2, none⟩ = some (.slice A2 es.length c2) := (blk_cell HBK5.out 2).trans rfl; have z3 : w5.cell? ⟨w.heap.size, 3, none⟩ = some (.slice A3 n3 c3) := (blk_cell HBK5.out 3).trans rfl; have z4 : w5.cell? ⟨w.heap.size, 4, none⟩ = some (.slice A4 n4 c4) := (blk_cell HBK5.out 4).trans rfl; clear hB5) | (go_at_call 83; refine (H2.out _ (by first | exact Kd.C_below HR2.out HB5.out | exact Kd.C_below HR2.out HB1.out) hc2.out).mono ?_; rintro en w6 ⟨rfl, hB6⟩; have HB6 : Aside0 (Below w.heap.size w w6) := ⟨by first | exact below_then HB5.out HB5.out.size hB6 | exact below_then HB1.out HB1.out.size hB6⟩; have HBK6 : Aside0 (w6.heap[w.heap.size]? = some (.cells #[.int .i64 3, .string s, .slice A2 es.length c2, .slice A3 n3 c3, .slice A4 n4 c4] 33 (0, 0))) := ⟨by first | exact blk_below HBK5.out hB6 | exact blk_below HBK1.out hB6⟩; have y0 : w6.cell? ⟨w.heap.size, 0, none⟩ = some (.int .i64 3) := (blk_cell HBK6.out 0).trans rfl; have y1 : w6.cell? ⟨w.heap.size, 1, none⟩ = some (.string s) := (blk_cell HBK6.out 1).trans rfl; have y2 : w6.cell? ⟨w.heap.size, 2, none⟩ = some (.slice A2 es.length c2) := (blk_cell HBK6.out 2).trans rfl; have y3 : w6.cell? ⟨w.heap.size, 3, none⟩ = some (.slice A3 n3 c3) := (blk_cell HBK6.out 3).trans rfl; have y4 : w6.cell? ⟨w.heap.size, 4, none⟩ = some (.slice A4 n4 c4) := (blk_cell HBK6.out 4).trans rfl; clear hB6) | (go_at_call 51; (with_reducible refine (H3.out _ ?cc hc3.out).mono ?_); (case cc => exact Kd.C_below HR3.out HB6.out); rintro en w7 ⟨rfl, hB7⟩; have HB7 : Aside0 (Below w.heap.size w w7) := ⟨by first | exact below_then HB6.out HB6.out.size hB7⟩; have HBK7 : Aside0 (w7.heap[w.heap.size]? = some (.cells #[.int .i64 3, .string s, .slice A2 es.length c2, .slice A3 n3 c3, .slice A4 n4 c4] 33 (0, 0))) := ⟨by first | exact blk_below HBK6.out hB7⟩; have x0 : w7.cell? ⟨w.heap.size, 0, none⟩ = some (.int .i64 3) := (blk_cell HBK7.out 0).trans rfl; have x1 : w7.cell? ⟨w.heap.size, 1, none⟩ = some (.string s) := (blk_cell HBK7.out 1).trans rfl; have x2 : w7.cell? ⟨w.heap.size, 2, none⟩ = some (.slice A2 es.length c2) := (blk_cell HBK7.out 2).trans rfl; have x3 : w7.cell? ⟨w.heap.size, 3, none⟩ = some (.slice A3 n3 c3) := (blk_cell HBK7.out 3).trans rfl; have x4 : w7.cell? ⟨w.heap.size, 4, none⟩ = some (.slice A4 n4 c4) := (blk_cell HBK7.out 4).trans rfl; clear hB7) | (go_at_call 51; (with_reducible refine (H4.out _ ?cc hc4.out).mono ?_); (case cc => exact Kd.C_below HR4.out HB7.out); rintro en w8 ⟨rfl, hB8⟩; have HB8 : Aside0 (Below w.heap.size w w8) := ⟨by first | exact below_then HB7.out HB7.out.size hB8⟩; have HBK8 : Aside0 (w8.heap[w.heap.size]? = some (.cells #[.int .i64 3, .string s, .slice A2 es.length c2, .slice A3 n3 c3, .slice A4 n4 c4] 33 (0, 0))) := ⟨by first | exact blk_below HBK7.out hB8⟩; have v0 : w8.cell? ⟨w.heap.size, 0, none⟩ = some (.int .i64 3) := (blk_cell HBK8.out 0).trans rfl; have v1 : w8.cell? ⟨w.heap.size, 1, none⟩ = some (.string s) := (blk_cell HBK8.out 1).trans rfl; have v2 : w8.cell? ⟨w.heap.size, 2, none⟩ = some (.slice A2 es.length c2) := (blk_cell HBK8.out 2).trans rfl; have v3 : w8.cell? ⟨w.heap.size, 3, none⟩ = some (.slice A3 n3 c3) := (blk_cell HBK8.out 3).trans rfl; have v4 : w8.cell? ⟨w.heap.size, 4, none⟩ = some (.slice A4 n4 c4) := (blk_cell HBK8.out 4).trans rfl; clear hB8))
    all_goals
      go_ret
      refine ⟨?_, by first | exact HB8.out | exact HB7.out | exact HB6.out | exact HB5.out | exact HB1.out⟩
      rw [HRES.out]
      first | (simp [headS, leafS, namedS, *]; done) | (simp [headS, leafS, namedS, *]; intros; omega)
end Go.Proofs.Ytdpncghnlkgkdaa.H
