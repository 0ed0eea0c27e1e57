/- seedcornref14.RightExpr, walked, kind by kind. Condition: the trees lie in memory. -/
import Derived.Test.YtdpncghnlkgkdaaMN
set_option linter.unusedVariables false
set_option linter.unusedSimpArgs false
namespace Go.Proofs.Ytdpncghnlkgkdaa.H
open Go.RowKit Go.Proofs.YtdpncghnlkgkdaaW.PrintWords Go.Proofs.YtdpncghnlkgkdaaW.PrintLast Go.Proofs.YtdpncghnlkgkdaaW.PrintMore Go.Proofs.Ytdpncghnlkgkdaa.G
set_option maxHeartbeats 16000000 in
set_option maxRecDepth 100000 in
theorem expr_k9 {d : Nat} (hd : d ≤ 24) (h : ExprsOk d) (n : Int) (s : ByteArray) (ks : List S37) (A4 : Option Addr) (c4 : Nat) (w : World) (hr : k37.C w A4 ks.length ks) (hc : ks.length ≤ c4) :
    Calls Try.prog 91 #[.agg #[.int .i64 9, .int .i64 0, .int .u32 n, .string s, .slice A4 ks.length c4], .int .i64 (25 - ((d + 1 : Nat) : Int))] w fun en w' => en = .returned (.bool (rightE (d + 1) ⟨9, 0, n, s, ks⟩)) ∧ Below w.heap.size w w' := by
  have HR := Aside0.mk hr
  have H := Aside0.mk (h ks A4 c4)
  have hmx := Kd.C_max hr
  obtain ⟨kb, hkb⟩ : ∃ kb, kb = ks.all (rightE d) := ⟨_, rfl⟩
  obtain ⟨nb, hnb⟩ : ∃ nb, nb = isNameB s := ⟨_, rfl⟩
  have HNB := Aside0.mk hnb.symm
  have HNC : Aside0 (∀ w : World, Calls Try.prog 50 #[.string s] w fun e w' => e = .returned (.bool nb) ∧ Below w.heap.size w w') := ⟨fun w => by rw [hnb]; exact isName_calls s w⟩
  obtain ⟨res, hres⟩ : ∃ res, res = rightE (d + 1) ⟨9, 0, n, s, ks⟩ := ⟨_, rfl⟩
  have HRES : Aside0 (res = (headE ⟨9, 0, n, s, ks⟩ && leafE 9 0 kb ks.length)) := ⟨by rw [hres, hkb]; rfl⟩
  obtain ⟨lv, hlv⟩ : ∃ lv, lv = 25 - ((d + 1 : Nat) : Int) := ⟨_, rfl⟩
  rw [← hkb, show (25 - (d : Int)) = lv + 1 by omega] at H
  rw [← hres, ← hlv]
  have l1 : lv ≤ 24 := by omega
  have l2 : 0 ≤ lv := by omega
  have hnew := Aside0.mk (blk_new w (.cells #[.int .i64 9, .int .i64 0, .int .u32 n, .string s, .slice A4 ks.length c4] 37))
  have HB1 := Aside0.mk (below_alloc (Below.refl w.heap.size w) (.cells #[.int .i64 9, .int .i64 0, .int .u32 n, .string s, .slice A4 ks.length c4] 37))
  have hcc := Aside0.mk hc
  clear hr h hkb hres hlv hd hc hnb
  rcases Bool.eq_false_or_eq_true (n != 0) with hn | hn <;> rcases emptyOr s with ⟨hs, hs2⟩ | ⟨hs, hs2⟩ <;> cases nb
  all_goals
    have HNN := HNB.out
    go_enter Try.func91, Try.ntmps91
    go_wp2_with (first | (go_at_call 50; refine (HNC.out _).mono ?_; rintro en w5 ⟨rfl, hB5⟩; have hb5 := blk_below hnew.out hB5; have HB5 := Aside0.mk (below_then HB1.out HB1.out.size hB5); have z0 : w5.cell? ⟨w.heap.size, 0, none⟩ = some (.int .i64 9) := (blk_cell hb5 0).trans rfl; have z1 : w5.cell? ⟨w.heap.size, 1, none⟩ = some (.int .i64 0) := (blk_cell hb5 1).trans rfl; have z2 : w5.cell? ⟨w.heap.size, 2, none⟩ = some (.int .u32 n) := (blk_cell hb5 2).trans rfl; have z3 : w5.cell? ⟨w.heap.size, 3, none⟩ = some (.string s) := (blk_cell hb5 3).trans rfl; have z4 : w5.cell? ⟨w.heap.size, 4, none⟩ = some (.slice A4 ks.length c4) := (blk_cell hb5 4).trans rfl; clear hB5 hb5) | (go_at_call 83; refine (H.out _ (by first | exact Kd.C_below HR.out HB5.out | exact Kd.C_below HR.out HB1.out) hcc.out).mono ?_; rintro en w6 ⟨rfl, hB6⟩; have HB6 : Aside0 (Below w.heap.size w w6) := ⟨by first | exact below_then HB5.out HB5.out.size hB6 | exact below_then HB1.out HB1.out.size hB6⟩; clear hB6))
    all_goals
      go_ret
      refine ⟨?_, by first | exact HB6.out | exact HB5.out | exact HB1.out⟩
      rw [HRES.out]
      first | (simp [headE, leafE, namedE, *]; done) | (simp [headE, leafE, namedE, *]; intros; omega)
set_option maxHeartbeats 16000000 in
set_option maxRecDepth 100000 in
theorem expr_k6 {d : Nat} (hd : d ≤ 24) (h : ExprsOk d) (o : Int) (n : Int) (s : ByteArray) (ks : List S37) (A4 : Option Addr) (c4 : Nat) (w : World) (hr : k37.C w A4 ks.length ks) (hc : ks.length ≤ c4) :
    Calls Try.prog 91 #[.agg #[.int .i64 6, .int .i64 o, .int .u32 n, .string s, .slice A4 ks.length c4], .int .i64 (25 - ((d + 1 : Nat) : Int))] w fun en w' => en = .returned (.bool (rightE (d + 1) ⟨6, o, n, s, ks⟩)) ∧ Below w.heap.size w w' := by
  have HR := Aside0.mk hr
  have H := Aside0.mk (h ks A4 c4)
  have hmx := Kd.C_max hr
  obtain ⟨kb, hkb⟩ : ∃ kb, kb = ks.all (rightE d) := ⟨_, rfl⟩
  obtain ⟨nb, hnb⟩ : ∃ nb, nb = isNameB s := ⟨_, rfl⟩
  have HNB := Aside0.mk hnb.symm
  have HNC : Aside0 (∀ w : World, Calls Try.prog 50 #[.string s] w fun e w' => e = .returned (.bool nb) ∧ Below w.heap.size w w') := ⟨fun w => by rw [hnb]; exact isName_calls s w⟩
  obtain ⟨res, hres⟩ : ∃ res, res = rightE (d + 1) ⟨6, o, n, s, ks⟩ := ⟨_, rfl⟩
  have HRES : Aside0 (res = (headE ⟨6, o, n, s, ks⟩ && leafE 6 o kb ks.length)) := ⟨by rw [hres, hkb]; rfl⟩
  obtain ⟨lv, hlv⟩ : ∃ lv, lv = 25 - ((d + 1 : Nat) : Int) := ⟨_, rfl⟩
  rw [← hkb, show (25 - (d : Int)) = lv + 1 by omega] at H
  rw [← hres, ← hlv]
  have l1 : lv ≤ 24 := by omega
  have l2 : 0 ≤ lv := by omega
  have hnew := Aside0.mk (blk_new w (.cells #[.int .i64 6, .int .i64 o, .int .u32 n, .string s, .slice A4 ks.length c4] 37))
  have HB1 := Aside0.mk (below_alloc (Below.refl w.heap.size w) (.cells #[.int .i64 6, .int .i64 o, .int .u32 n, .string s, .slice A4 ks.length c4] 37))
  have hcc := Aside0.mk hc
  clear hr h hkb hres hlv hd hc hnb
  rcases Bool.eq_false_or_eq_true (n != 0) with hn | hn <;> rcases emptyOr s with ⟨hs, hs2⟩ | ⟨hs, hs2⟩ <;> cases nb
  all_goals
    have HNN := HNB.out
    go_enter Try.func91, Try.ntmps91
    go_wp2_with (first | (go_at_call 50; refine (HNC.out _).mono ?_; rintro en w5 ⟨rfl, hB5⟩; have hb5 := blk_below hnew.out hB5; have HB5 := Aside0.mk (below_then HB1.out HB1.out.size hB5); have z0 : w5.cell? ⟨w.heap.size, 0, none⟩ = some (.int .i64 6) := (blk_cell hb5 0).trans rfl; have z1 : w5.cell? ⟨w.heap.size, 1, none⟩ = some (.int .i64 o) := (blk_cell hb5 1).trans rfl; have z2 : w5.cell? ⟨w.heap.size, 2, none⟩ = some (.int .u32 n) := (blk_cell hb5 2).trans rfl; have z3 : w5.cell? ⟨w.heap.size, 3, none⟩ = some (.string s) := (blk_cell hb5 3).trans rfl; have z4 : w5.cell? ⟨w.heap.size, 4, none⟩ = some (.slice A4 ks.length c4) := (blk_cell hb5 4).trans rfl; clear hB5 hb5) | (go_at_call 83; refine (H.out _ (by first | exact Kd.C_below HR.out HB5.out | exact Kd.C_below HR.out HB1.out) hcc.out).mono ?_; rintro en w6 ⟨rfl, hB6⟩; have HB6 : Aside0 (Below w.heap.size w w6) := ⟨by first | exact below_then HB5.out HB5.out.size hB6 | exact below_then HB1.out HB1.out.size hB6⟩; clear hB6))
    all_goals
      go_ret
      refine ⟨?_, by first | exact HB6.out | exact HB5.out | exact HB1.out⟩
      rw [HRES.out]
      first | (simp [headE, leafE, namedE, *]; done) | (simp [headE, leafE, namedE, *]; intros; omega)
set_option maxHeartbeats 16000000 in
set_option maxRecDepth 100000 in
theorem expr_ko {d : Nat} (hd : d ≤ 24) (h : ExprsOk d) (k : Int) (hk : k < 1 ∨ 9 < k) (n : Int) (s : ByteArray) (ks : List S37) (A4 : Option Addr) (c4 : Nat) (w : World) (hr : k37.C w A4 ks.length ks) (hc : ks.length ≤ c4) :
    Calls Try.prog 91 #[.agg #[.int .i64 k, .int .i64 0, .int .u32 n, .string s, .slice A4 ks.length c4], .int .i64 (25 - ((d + 1 : Nat) : Int))] w fun en w' => en = .returned (.bool (rightE (d + 1) ⟨k, 0, n, s, ks⟩)) ∧ Below w.heap.size w w' := by
  have HLF : Aside0 (∀ b m, leafE k 0 b m = false) := ⟨fun b m => by unfold leafE; rw [if_neg (by omega), if_neg (by omega), if_neg (by omega), if_neg (by omega), if_neg (by omega)]⟩
  have t1 : (k == 1) = false := by simp; omega
  have t2 : (k == 2) = false := by simp; omega
  have t3 : (k == 3) = false := by simp; omega
  have t4 : (k == 4) = false := by simp; omega
  have t5 : (k == 5) = false := by simp; omega
  have t6 : (k == 6) = false := by simp; omega
  have t7 : (k == 7) = false := by simp; omega
  have t8 : (k == 8) = false := by simp; omega
  have t9 : (k == 9) = false := by simp; omega
  have u1 : (k != 1) = true := by simp; omega
  have u6 : (k != 6) = true := by simp; omega
  clear hk
  have HR := Aside0.mk hr
  have H := Aside0.mk (h ks A4 c4)
  have hmx := Kd.C_max hr
  obtain ⟨kb, hkb⟩ : ∃ kb, kb = ks.all (rightE d) := ⟨_, rfl⟩
  obtain ⟨nb, hnb⟩ : ∃ nb, nb = isNameB s := ⟨_, rfl⟩
  have HNB := Aside0.mk hnb.symm
  have HNC : Aside0 (∀ w : World, Calls Try.prog 50 #[.string s] w fun e w' => e = .returned (.bool nb) ∧ Below w.heap.size w w') := ⟨fun w => by rw [hnb]; exact isName_calls s w⟩
  obtain ⟨res, hres⟩ : ∃ res, res = rightE (d + 1) ⟨k, 0, n, s, ks⟩ := ⟨_, rfl⟩
  have HRES : Aside0 (res = (headE ⟨k, 0, n, s, ks⟩ && leafE k 0 kb ks.length)) := ⟨by rw [hres, hkb]; rfl⟩
  obtain ⟨lv, hlv⟩ : ∃ lv, lv = 25 - ((d + 1 : Nat) : Int) := ⟨_, rfl⟩
  rw [← hkb, show (25 - (d : Int)) = lv + 1 by omega] at H
  rw [← hres, ← hlv]
  have l1 : lv ≤ 24 := by omega
  have l2 : 0 ≤ lv := by omega
  have hnew := Aside0.mk (blk_new w (.cells #[.int .i64 k, .int .i64 0, .int .u32 n, .string s, .slice A4 ks.length c4] 37))
  have HB1 := Aside0.mk (below_alloc (Below.refl w.heap.size w) (.cells #[.int .i64 k, .int .i64 0, .int .u32 n, .string s, .slice A4 ks.length c4] 37))
  have hcc := Aside0.mk hc
  clear hr h hkb hres hlv hd hc hnb
  rcases Bool.eq_false_or_eq_true (n != 0) with hn | hn <;> rcases emptyOr s with ⟨hs, hs2⟩ | ⟨hs, hs2⟩ <;> cases nb
  all_goals
    have HNN := HNB.out
    go_enter Try.func91, Try.ntmps91
    go_wp2_with (first | (go_at_call 50; refine (HNC.out _).mono ?_; rintro en w5 ⟨rfl, hB5⟩; have hb5 := blk_below hnew.out hB5; have HB5 := Aside0.mk (below_then HB1.out HB1.out.size hB5); have z0 : w5.cell? ⟨w.heap.size, 0, none⟩ = some (.int .i64 k) := (blk_cell hb5 0).trans rfl; have z1 : w5.cell? ⟨w.heap.size, 1, none⟩ = some (.int .i64 0) := (blk_cell hb5 1).trans rfl; have z2 : w5.cell? ⟨w.heap.size, 2, none⟩ = some (.int .u32 n) := (blk_cell hb5 2).trans rfl; have z3 : w5.cell? ⟨w.heap.size, 3, none⟩ = some (.string s) := (blk_cell hb5 3).trans rfl; have z4 : w5.cell? ⟨w.heap.size, 4, none⟩ = some (.slice A4 ks.length c4) := (blk_cell hb5 4).trans rfl; clear hB5 hb5) | (go_at_call 83; refine (H.out _ (by first | exact Kd.C_below HR.out HB5.out | exact Kd.C_below HR.out HB1.out) hcc.out).mono ?_; rintro en w6 ⟨rfl, hB6⟩; have HB6 : Aside0 (Below w.heap.size w w6) := ⟨by first | exact below_then HB5.out HB5.out.size hB6 | exact below_then HB1.out HB1.out.size hB6⟩; clear hB6))
    all_goals
      go_ret
      refine ⟨?_, by first | exact HB6.out | exact HB5.out | exact HB1.out⟩
      rw [HRES.out]
      rw [HLF.out]
      simp
end Go.Proofs.Ytdpncghnlkgkdaa.H
