/- seedcornref14.IsName and names end, for whatever names. Plain.
   seedcornref14.RightExpr, RightExprs, walked: may an expression be? Condition: the trees lie in memory. -/
import Derived.Test.YtdpncghnlkgkdaaGf49
import Derived.Test.YtdpncghnlkgkdaaMA
import Derived.Test.YtdpncghnlkgkdaaHEx
set_option linter.unusedVariables false
set_option linter.unusedSimpArgs false
namespace Go.Proofs.Ytdpncghnlkgkdaa.H
open Go.RowKit Go.Proofs.YtdpncghnlkgkdaaW.PrintWords Go.Proofs.YtdpncghnlkgkdaaW.PrintLast Go.Proofs.YtdpncghnlkgkdaaW.PrintMore Go.Proofs.Ytdpncghnlkgkdaa.G

theorem letter_some (a : Int) : ∃ b, seedcornref13_letter.f a = some b := by
  unfold seedcornref13_letter.f
  repeat (first | exact ⟨_, rfl⟩ | split)
theorem digit_some (a : Int) : ∃ b, seedcornref13_digit.f a = some b := by
  unfold seedcornref13_digit.f
  repeat (first | exact ⟨_, rfl⟩ | split)
theorem wr1 {i : Nat} (h : i ≤ 1000000000) : wrap64 ((i : Int) + 1) = ((i + 1 : Nat) : Int) := by unfold wrap64; omega
theorem name_l0 (s : ByteArray) (hs : s.size ≤ 20) : ∀ (d i k : Nat), i + d = s.size → d + 1 ≤ k → ∃ b, seedcornref13_Name.l0 k s (i : Int) = some b := by
  intro d
  induction d with
  | zero =>
    intro i k hi hk
    obtain ⟨k, rfl⟩ : ∃ m, k = m + 1 := ⟨k - 1, by omega⟩
    simp only [seedcornref13_Name.l0]
    rw [if_neg (by omega)]
    exact ⟨_, rfl⟩
  | succ d ih =>
    intro i k hi hk
    obtain ⟨k, rfl⟩ : ∃ m, k = m + 1 := ⟨k - 1, by omega⟩
    obtain ⟨b, hb⟩ := ih (i + 1) k (by omega) (by omega)
    obtain ⟨b1, h1⟩ := letter_some (bt s (i : Int))
    obtain ⟨b2, h2⟩ := digit_some (bt s (i : Int))
    simp only [seedcornref13_Name.l0]
    rw [if_pos (by omega), if_pos (by omega), wr1 (by omega), hb, h1, h2]
    simp only [Option.bind_some]
    repeat (first | exact ⟨_, rfl⟩ | split)
theorem in_l0 (l : List ByteArray) (s : ByteArray) (hl : l.length ≤ 1000) : ∀ (d i k : Nat), i + d = l.length → d + 1 ≤ k → ∃ b, seedcornref13_in.l0 k l s (i : Int) = some b := by
  intro d
  induction d with
  | zero =>
    intro i k hi hk
    obtain ⟨k, rfl⟩ : ∃ m, k = m + 1 := ⟨k - 1, by omega⟩
    simp only [seedcornref13_in.l0]
    rw [if_neg (by omega)]
    exact ⟨_, rfl⟩
  | succ d ih =>
    intro i k hi hk
    obtain ⟨k, rfl⟩ : ∃ m, k = m + 1 := ⟨k - 1, by omega⟩
    obtain ⟨b, hb⟩ := ih (i + 1) k (by omega) (by omega)
    simp only [seedcornref13_in.l0]
    rw [if_pos (by omega), if_pos (by omega), wr1 (by omega), hb]
    repeat (first | exact ⟨_, rfl⟩ | split)
theorem name_some (s : ByteArray) {k : Nat} (hk : 40 ≤ k) : ∃ b, seedcornref13_Name.f k s = some b := by
  obtain ⟨k, rfl⟩ : ∃ m, k = m + 1 := ⟨k - 1, by omega⟩
  obtain ⟨b1, h1⟩ := letter_some (bt s 0)
  have h3 : ∀ l : List ByteArray, l.length = 10 → ∃ b, seedcornref13_in.f (k + 1) l s = some b := fun l hl => in_l0 l s (by omega) 10 0 (k + 1) (by omega) (by omega)
  have hf : ∀ b, s.size ≤ 20 → ∃ c, seedcornref13_Name.j0 (k + 1) s b = some c := fun b hs => by
    simp only [seedcornref13_Name.j0]
    obtain ⟨c, hc⟩ := name_l0 s hs s.size 0 k (by omega) (by omega)
    split
    · exact ⟨_, rfl⟩
    · exact ⟨c, hc⟩
  have ht : ∃ c, seedcornref13_Name.j0 (k + 1) s true = some c := by simp [seedcornref13_Name.j0]
  unfold seedcornref13_Name.f
  by_cases e0 : (s.size : Int) = 0
  · rw [if_pos e0]; exact ht
  · rw [if_neg e0]
    by_cases e1 : (s.size : Int) > 20
    · rw [if_pos e1]; exact ht
    · rw [if_neg e1, if_pos (by omega), h1]
      simp only [Option.bind_some]
      split
      · unfold seedcornref13_Words.f
        simp only [Option.bind_some]
        obtain ⟨b, hb⟩ := h3 _ (show ([(⟨#[118, 97, 114]⟩ : ByteArray), (⟨#[97, 114, 114, 97, 121]⟩ : ByteArray), (⟨#[102, 117, 110, 99]⟩ : ByteArray), (⟨#[119, 111, 114, 100]⟩ : ByteArray), (⟨#[105, 102]⟩ : ByteArray), (⟨#[101, 108, 115, 101]⟩ : ByteArray), (⟨#[119, 104, 105, 108, 101]⟩ : ByteArray), (⟨#[114, 101, 116, 117, 114, 110]⟩ : ByteArray), (⟨#[112, 117, 116]⟩ : ByteArray), (⟨#[103, 101, 116]⟩ : ByteArray)] : List ByteArray).length = 10 from rfl)
        rw [hb]
        exact hf b (by omega)
      · exact ht
theorem isName_l0 (s : ByteArray) (l : List ByteArray) (hl : l.length ≤ 1000) : ∀ (d i k : Nat), i + d = l.length → d + 41 ≤ k → ∃ b, seedcornref14_IsName.l0 k s l (i : Int) = some b := by
  intro d
  induction d with
  | zero =>
    intro i k hi hk
    obtain ⟨k, rfl⟩ : ∃ m, k = m + 1 := ⟨k - 1, by omega⟩
    obtain ⟨b, hb⟩ := name_some s (k := k) (by omega)
    simp only [seedcornref14_IsName.l0]
    rw [if_neg (by omega), hb]
    exact ⟨_, rfl⟩
  | succ d ih =>
    intro i k hi hk
    obtain ⟨k, rfl⟩ : ∃ m, k = m + 1 := ⟨k - 1, by omega⟩
    obtain ⟨b, hb⟩ := ih (i + 1) k (by omega) (by omega)
    simp only [seedcornref14_IsName.l0]
    rw [if_pos (by omega), if_pos (by omega), wr1 (by omega), hb]
    repeat (first | exact ⟨_, rfl⟩ | split)
theorem isName_some (s : ByteArray) {k : Nat} (hk : 60 ≤ k) : ∃ b, seedcornref14_IsName.f k s = some b := by
  unfold seedcornref14_IsName.f seedcornref14_words.f
  simp only [Option.bind_some]
  exact isName_l0 s _ (by decide) 10 0 k (by decide) (by omega)
def isNameB (s : ByteArray) : Bool := seedcornref14_IsName.f 60 s == some true
theorem isName_f (s : ByteArray) {k : Nat} (hk : 60 ≤ k) : seedcornref14_IsName.f k s = some (isNameB s) := by
  obtain ⟨b, hb⟩ := isName_some s (k := 60) (Nat.le_refl _)
  have e : isNameB s = b := by unfold isNameB; rw [hb]; cases b <;> rfl
  rw [e]
  have hm : ∀ n, seedcornref14_IsName.f (60 + n) s = some b := by
    intro n
    induction n with
    | zero => exact hb
    | succ n ih => exact seedcornref14_IsName.mono s (60 + n) b ih
  have := hm (k - 60)
  rwa [show 60 + (k - 60) = k by omega] at this
theorem isName_calls (s : ByteArray) (w : World) : Calls Try.prog 50 #[.string s] w fun e w' => e = .returned (.bool (isNameB s)) ∧ Below w.heap.size w w' := seedcornref14_IsName.calls 60 s _ w (isName_f s (Nat.le_refl _))
theorem names_l0 (l : List ByteArray) (hl : l.length ≤ 1000000) : ∀ (d i k : Nat), i + d = l.length → d + 61 ≤ k → seedcornref14_names.l0 k l (i : Int) = some ((l.drop i).all isNameB) := by
  intro d
  induction d with
  | zero =>
    intro i k hi hk
    obtain ⟨k, rfl⟩ : ∃ m, k = m + 1 := ⟨k - 1, by omega⟩
    simp only [seedcornref14_names.l0]
    rw [if_neg (by omega), List.drop_eq_nil_of_le (by omega)]
    rfl
  | succ d ih =>
    intro i k hi hk
    obtain ⟨k, rfl⟩ : ∃ m, k = m + 1 := ⟨k - 1, by omega⟩
    have hlt : i < l.length := by omega
    have hx : rdOf ByteArray.empty l (i : Int) = l[i] := by
      unfold rdOf
      rw [Int.toNat_natCast, List.getD_eq_getElem?_getD, List.getElem?_eq_getElem hlt]
      rfl
    simp only [seedcornref14_names.l0]
    rw [if_pos (by omega), if_pos (by omega), wr1 (by omega), ih (i + 1) k (by omega) (by omega), hx, isName_f _ (by omega), List.drop_eq_getElem_cons hlt, List.all_cons]
    simp only [Option.bind_some]
    cases isNameB l[i] <;> simp
theorem names_calls (A : Option Addr) (c : Nat) (l : List ByteArray) (w : World) (hr : Kd.C Kd.string w A l.length l) (hc : l.length ≤ c) (hl : l.length ≤ 1000000) :
    Calls Try.prog 49 #[.slice A l.length c] w fun e w' => e = .returned (.bool (l.all isNameB)) ∧ Below w.heap.size w w' :=
  seedcornref14_names.calls (l.length + 61) A c l _ w hr hc (by have := names_l0 l hl l.length 0 (l.length + 61) (by omega) (by omega); exact this)
end Go.Proofs.Ytdpncghnlkgkdaa.H
set_option linter.unusedVariables false
set_option linter.unusedSimpArgs false
namespace Go.Proofs.Ytdpncghnlkgkdaa.H
open Go.RowKit Go.Proofs.YtdpncghnlkgkdaaW.PrintWords Go.Proofs.YtdpncghnlkgkdaaW.PrintLast Go.Proofs.YtdpncghnlkgkdaaW.PrintMore Go.Proofs.Ytdpncghnlkgkdaa.G

theorem emptyOr (s : ByteArray) : (s.toList = [] ∧ s.toList.isEmpty = true) ∨ (¬ s.toList = [] ∧ s.toList.isEmpty = false) := by
  cases h : s.toList with
  | nil => exact .inl ⟨rfl, rfl⟩
  | cons a r => exact .inr ⟨by simp, rfl⟩
def leafE (k o : Int) (kids : Bool) (n : Int) : Bool :=
  if k = 1 ∨ k = 2 ∨ k = 5 then n == 0 else if k = 3 ∨ k = 7 then n == 1 && kids else if k = 4 then decide (n ≤ 6) && kids else if k = 6 then decide (4 ≤ o) && decide (o ≤ 15) && n == 2 && kids else if k = 8 ∨ k = 9 then n == 2 && kids else false
def namedE (k : Int) : Bool := k == 2 || k == 3 || k == 4
def headE (e : S37) : Bool := !((e.f0 != 6 && e.f1 != 0) || (e.f0 != 1 && e.f2 != 0)) && (namedE e.f0 == !e.f3.toList.isEmpty) && (!namedE e.f0 || isNameB e.f3)
def rightE : Nat → S37 → Bool
  | 0, _ => false
  | d + 1, e => headE e && leafE e.f0 e.f1 (e.f4.all (rightE d)) e.f4.length
def ExprOk (d : Nat) : Prop := ∀ (e : S37) (A4 : Option Addr) (c4 : Nat) (w : World), k37.C w A4 e.f4.length e.f4 → e.f4.length ≤ c4 →
  Calls Try.prog 91 #[.agg #[.int .i64 e.f0, .int .i64 e.f1, .int .u32 e.f2, .string e.f3, .slice A4 e.f4.length c4], .int .i64 (25 - (d : Int))] w fun en w' => en = .returned (.bool (rightE d e)) ∧ Below w.heap.size w w'
def ExprsOk (d : Nat) : Prop := ∀ (l : List S37) (A : Option Addr) (c : Nat) (w : World), k37.C w A l.length l → l.length ≤ c →
  Calls Try.prog 83 #[.slice A l.length c, .int .i64 (25 - (d : Int))] w fun en w' => en = .returned (.bool (l.all (rightE d))) ∧ Below w.heap.size w w'
set_option maxHeartbeats 2000000 in
set_option maxRecDepth 100000 in
theorem exprs_ok {d : Nat} (hd : d ≤ 1000) (h : ExprOk d) : ExprsOk d := by
  intro l A c w hr hc
  have HR := Aside0.mk hr
  have H := Aside0.mk h
  have hmx := Kd.C_max hr
  obtain ⟨res, hres⟩ : ∃ res, res = l.all (rightE d) := ⟨_, rfl⟩
  obtain ⟨lv, hlv⟩ : ∃ lv, lv = 25 - (d : Int) := ⟨_, rfl⟩
  rw [← hres, ← hlv]
  have HRES := Aside0.mk hres
  have HLV := Aside0.mk hlv
  clear hr h hres hlv
  go_enter Try.func83, Try.ntmps83
  go_wp2_with (fail)
  go_loopw [5] (fun v5 wr => ∃ k : Nat, k ≤ l.length ∧ v5 = .int .i64 k ∧ Aside0 (res = (l.drop k).all (rightE d)) ∧ Aside0 (Below w.heap.size w wr)) (fun v5 _ => l.length - (intOf v5).toNat)
  case atStart => exact ⟨0, Nat.zero_le _, rfl, ⟨by rw [List.drop_zero]; exact HRES.out⟩, ⟨Below.refl _ _⟩⟩
  case round =>
    obtain ⟨k, hk, rfl, HP, HB⟩ := hrel
    obtain ⟨wo, rfl⟩ : ∃ wo : World, wo = wr := ⟨_, rfl⟩
    by_cases hlt : k < l.length
    · obtain ⟨ad, A4, c4, rfl, x0, x1, x2, x3, x4, hl4, hC4⟩ := at_T37 (Kd.C_below HR.out HB.out) (k : Int) (by omega) (by omega)
      have HD : Aside0 (res = (rightE d (rd_T37 l (k : Int)) && (l.drop (k + 1)).all (rightE d))) := ⟨by
        rw [HP.out, List.drop_eq_getElem_cons hlt, List.all_cons]
        congr 2
        unfold rd_T37
        rw [Int.toNat_natCast, List.getD_eq_getElem?_getD, List.getElem?_eq_getElem hlt]
        rfl⟩
      generalize rd_T37 l (k : Int) = x at *
      rw [Int.toNat_natCast] at x0 x1 x2 x3 x4
      have hcl := H.out x A4 c4 wo hC4 hl4
      rw [← HLV.out] at hcl
      have HCL := Aside0.mk hcl
      obtain ⟨rb, hrb⟩ : ∃ rb, rb = rightE d x := ⟨_, rfl⟩
      rw [← hrb] at HD HCL
      clear hcl hrb hC4 hl4
      go_wp2_with (fail)
      refine HCL.out.mono ?_
      rintro e w5 ⟨rfl, hB5⟩
      have HB5 := Aside0.mk (below_then HB.out HB.out.size hB5)
      clear hB5 HCL x0 x1 x2 x3 x4
      cases rb with
      | false =>
        obtain rfl : res = false := by rw [HD.out]; rfl
        go_wp2_with (fail)
        go_ret
        exact ⟨rfl, HB5.out⟩
      | true =>
        have HD2 : Aside0 (res = (l.drop (k + 1)).all (rightE d)) := ⟨by rw [HD.out, Bool.true_and]⟩
        go_wp2_with (fail)
        go_roundw
        case rel => exact ⟨k + 1, hlt, by go_num, HD2, HB5⟩
        case measure => simp [intOf]; omega
    · obtain rfl : k = l.length := by omega
      obtain rfl : res = true := by rw [HP.out, List.drop_length]; rfl
      go_wp2_with (fail)
      go_ret
      exact ⟨rfl, HB.out⟩
set_option maxHeartbeats 4000000 in
set_option maxRecDepth 100000 in
theorem expr_zero : ExprOk 0 := by
  intro e A4 c4 w hr hc
  go_enter Try.func91, Try.ntmps91
  go_wp2_with (fail)
  go_ret
  exact ⟨rfl, below_alloc (Below.refl _ _) _⟩
end Go.Proofs.Ytdpncghnlkgkdaa.H
