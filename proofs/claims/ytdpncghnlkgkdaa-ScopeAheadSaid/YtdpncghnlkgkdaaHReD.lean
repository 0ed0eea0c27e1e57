/- seedcornref14.RightExpr at every level; RightStmts out of RightStmt, walked. Condition: the trees lie in memory. -/
import Derived.Test.YtdpncghnlkgkdaaHReA
import Derived.Test.YtdpncghnlkgkdaaHReB
import Derived.Test.YtdpncghnlkgkdaaHReC
set_option linter.unusedVariables false
set_option linter.unusedSimpArgs false
namespace Go.Proofs.Ytdpncghnlkgkdaa.H
open Go.RowKit Go.Proofs.YtdpncghnlkgkdaaW.PrintWords Go.Proofs.YtdpncghnlkgkdaaW.PrintLast Go.Proofs.YtdpncghnlkgkdaaW.PrintMore Go.Proofs.Ytdpncghnlkgkdaa.G
theorem op_bad {k o : Int} (hk : k ≠ 6) (ho : o ≠ 0) (d : Nat) (n : Int) (s : ByteArray) (ks : List S37) : rightE (d + 1) ⟨k, o, n, s, ks⟩ = false := by
  simp [rightE, headE, hk, ho]
set_option maxHeartbeats 8000000 in
set_option maxRecDepth 100000 in
theorem expr_op {d : Nat} (hd : d ≤ 24) {k o : Int} (hk : k ≠ 6) (ho : o ≠ 0) (n : Int) (s : ByteArray) (ks : List S37) (A4 : Option Addr) (c4 : Nat) (w : World) (hr : k37.C w A4 ks.length ks) (hc : ks.length ≤ c4) :
    Calls Try.prog 91 #[.agg #[.int .i64 k, .int .i64 o, .int .u32 n, .string s, .slice A4 ks.length c4], .int .i64 (25 - ((d + 1 : Nat) : Int))] w fun en w' => en = .returned (.bool (rightE (d + 1) ⟨k, o, n, s, ks⟩)) ∧ Below w.heap.size w w' := by
  rw [op_bad hk ho]
  obtain ⟨lv, hlv⟩ : ∃ lv, lv = 25 - ((d + 1 : Nat) : Int) := ⟨_, rfl⟩
  rw [← hlv]
  have l1 : lv ≤ 24 := by omega
  have hk2 : (k != 6) = true := by simpa using hk
  have ho2 : (o != 0) = true := by simpa using ho
  have ho3 : (o == 0) = false := by simpa using ho
  have hk3 : (k == 6) = false := by simpa using hk
  clear hk ho hlv hd hr hc
  go_enter Try.func91, Try.ntmps91
  go_wp2_with (fail)
  go_ret
  exact ⟨rfl, below_alloc (Below.refl _ _) _⟩
theorem expr_succ {d : Nat} (hd : d ≤ 24) (h : ExprsOk d) : ExprOk (d + 1) := by
  rintro ⟨k, o, n, s, ks⟩ A4 c4 w hr hc
  by_cases h6 : k = 6
  · subst h6; exact expr_k6 hd h o n s ks A4 c4 w hr hc
  · by_cases ho : o = 0
    · subst ho
      by_cases h1 : k = 1
      · subst h1; exact expr_k1 hd h n s ks A4 c4 w hr hc
      · by_cases h2 : k = 2
        · subst h2; exact expr_k2 hd h n s ks A4 c4 w hr hc
        · by_cases h3 : k = 3
          · subst h3; exact expr_k3 hd h n s ks A4 c4 w hr hc
          · by_cases h4 : k = 4
            · subst h4; exact expr_k4 hd h n s ks A4 c4 w hr hc
            · by_cases h5 : k = 5
              · subst h5; exact expr_k5 hd h n s ks A4 c4 w hr hc
              · by_cases h7 : k = 7
                · subst h7; exact expr_k7 hd h n s ks A4 c4 w hr hc
                · by_cases h8 : k = 8
                  · subst h8; exact expr_k8 hd h n s ks A4 c4 w hr hc
                  · by_cases h9 : k = 9
                    · subst h9; exact expr_k9 hd h n s ks A4 c4 w hr hc
                    · exact expr_ko hd h k (by omega) n s ks A4 c4 w hr hc
    · exact expr_op hd h6 ho n s ks A4 c4 w hr hc
theorem expr_all : ∀ d, d ≤ 25 → ExprOk d
  | 0, _ => expr_zero
  | d + 1, h => expr_succ (by omega) (exprs_ok (by omega) (expr_all d (by omega)))
theorem exprs_all {d : Nat} (h : d ≤ 25) : ExprsOk d := exprs_ok (by omega) (expr_all d h)

def leafS (k n : Int) : Bool := if k = 1 ∨ k = 3 ∨ k = 4 ∨ k = 5 then n == 1 else if k = 2 then n == 2 else if k = 6 then decide (n ≤ 6) else if k = 7 then decide (n ≤ 1) else false
def namedS (k : Int) : Bool := k == 1 || k == 2 || k == 6
def headS (k : Int) (s : ByteArray) (t e : Nat) : Bool := !((k != 4 && decide (0 < e)) || (k != 4 && k != 5 && decide (0 < t))) && (namedS k == !s.toList.isEmpty) && (!namedS k || isNameB s)
def rightS : Nat → S33 → Bool
  | 0, _ => false
  | d + 1, s => headS s.f0 s.f1 s.f3.length s.f4.length && leafS s.f0 s.f2.length && s.f2.all (rightE d) && s.f3.all (rightS d) && s.f4.all (rightS d)
theorem lenOr {α : Type} (l : List α) : (l = [] ∧ decide (0 < ([] : List α).length) = false) ∨ (0 < l.length ∧ decide (0 < l.length) = true) := by
  cases l with
  | nil => exact .inl ⟨rfl, rfl⟩
  | cons a r => exact .inr ⟨by simp, by simp⟩
def StmtOk (d : Nat) : Prop := ∀ (e : S33) (A2 : Option Addr) (c2 : Nat) (A3 : Option Addr) (c3 : Nat) (A4 : Option Addr) (c4 : Nat) (w : World), k37.C w A2 e.f2.length e.f2 → e.f2.length ≤ c2 → k33.C w A3 e.f3.length e.f3 → e.f3.length ≤ c3 → k33.C w A4 e.f4.length e.f4 → e.f4.length ≤ c4 →
  Calls Try.prog 64 #[.agg #[.int .i64 e.f0, .string e.f1, .slice A2 e.f2.length c2, .slice A3 e.f3.length c3, .slice A4 e.f4.length c4], .int .i64 (25 - (d : Int))] w fun en w' => en = .returned (.bool (rightS d e)) ∧ Below w.heap.size w w'
def StmtsOk (d : Nat) : Prop := ∀ (l : List S33) (A : Option Addr) (c : Nat) (w : World), k33.C w A l.length l → l.length ≤ c →
  Calls Try.prog 51 #[.slice A l.length c, .int .i64 (25 - (d : Int))] w fun en w' => en = .returned (.bool (l.all (rightS d))) ∧ Below w.heap.size w w'
set_option maxHeartbeats 2000000 in
set_option maxRecDepth 100000 in
theorem stmts_ok {d : Nat} (hd : d ≤ 1000) (h : StmtOk d) : StmtsOk d := by
  intro l A c w hr hc
  have HR := Aside0.mk hr
  have H := Aside0.mk h
  have hmx := Kd.C_max hr
  obtain ⟨res, hres⟩ : ∃ res, res = l.all (rightS d) := ⟨_, rfl⟩
  obtain ⟨lv, hlv⟩ : ∃ lv, lv = 25 - (d : Int) := ⟨_, rfl⟩
  rw [← hres, ← hlv]
  have HRES := Aside0.mk hres
  have HLV := Aside0.mk hlv
  clear hr h hres hlv
  go_enter Try.func51, Try.ntmps51
  go_wp2_with (fail)
  go_loopw [5] (fun v5 wr => ∃ k : Nat, k ≤ l.length ∧ v5 = .int .i64 k ∧ Aside0 (res = (l.drop k).all (rightS d)) ∧ Aside0 (Below w.heap.size w wr)) (fun v5 _ => l.length - (intOf v5).toNat)
  case atStart => exact ⟨0, Nat.zero_le _, rfl, ⟨by rw [List.drop_zero]; exact HRES.out⟩, ⟨Below.refl _ _⟩⟩
  case round =>
    obtain ⟨k, hk, rfl, HP, HB⟩ := hrel
    obtain ⟨wo, rfl⟩ : ∃ wo : World, wo = wr := ⟨_, rfl⟩
    by_cases hlt : k < l.length
    · obtain ⟨ad, A2, c2, A3, c3, A4, c4, rfl, x0, x1, x2, x3, x4, hl2, hC2, hl3, hC3, hl4, hC4⟩ := at_T33 (Kd.C_below HR.out HB.out) (k : Int) (by omega) (by omega)
      have HD : Aside0 (res = (rightS d (rd_T33 l (k : Int)) && (l.drop (k + 1)).all (rightS d))) := ⟨by
        rw [HP.out, List.drop_eq_getElem_cons hlt, List.all_cons]
        congr 2
        unfold rd_T33
        rw [Int.toNat_natCast, List.getD_eq_getElem?_getD, List.getElem?_eq_getElem hlt]
        rfl⟩
      generalize rd_T33 l (k : Int) = x at *
      rw [Int.toNat_natCast] at x0 x1 x2 x3 x4
      have hcl := H.out x A2 c2 A3 c3 A4 c4 wo hC2 hl2 hC3 hl3 hC4 hl4
      rw [← HLV.out] at hcl
      have HCL := Aside0.mk hcl
      obtain ⟨rb, hrb⟩ : ∃ rb, rb = rightS d x := ⟨_, rfl⟩
      rw [← hrb] at HD HCL
      clear hcl hrb hC2 hl2 hC3 hl3 hC4 hl4
      go_wp2_with (fail)
      refine HCL.out.mono ?_
      rintro e w5 ⟨rfl, hB5⟩
      have HB5 := Aside0.mk (below_then HB.out HB.out.size hB5)
      clear hB5 HCL x0 x1 x2 x3 x4
      cases rb with
      | false =>
        obtain rfl : res = false := by rw [HD.out]; rfl
        go_wp2_with (fail)
        go_ret
        exact ⟨rfl, HB5.out⟩
      | true =>
        have HD2 : Aside0 (res = (l.drop (k + 1)).all (rightS d)) := ⟨by rw [HD.out, Bool.true_and]⟩
        go_wp2_with (fail)
        go_roundw
        case rel => exact ⟨k + 1, hlt, by go_num, HD2, HB5⟩
        case measure => simp [intOf]; omega
    · obtain rfl : k = l.length := by omega
      obtain rfl : res = true := by rw [HP.out, List.drop_length]; rfl
      go_wp2_with (fail)
      go_ret
      exact ⟨rfl, HB.out⟩
set_option maxHeartbeats 4000000 in
set_option maxRecDepth 100000 in
theorem stmt_zero : StmtOk 0 := by
  intro e A2 c2 A3 c3 A4 c4 w hr2 hl2 hr3 hl3 hr4 hl4
  go_enter Try.func64, Try.ntmps64
  go_wp2_with (fail)
  go_ret
  exact ⟨rfl, below_alloc (Below.refl _ _) _⟩
end Go.Proofs.Ytdpncghnlkgkdaa.H
