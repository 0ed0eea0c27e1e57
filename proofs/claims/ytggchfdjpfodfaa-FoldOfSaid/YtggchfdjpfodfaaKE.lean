/- Bits in a row: a number's, the number of a row, and what and, or, xor are bit by bit. No condition beyond the bounds told.
   The printed Bits and Of of the document's words: a number's bits, and the number of a row of bits. Condition: the number is a word, the row has no more than 32.
   The document's operations on words (seedcornref01.Bits, Of, both, shift, flag, Apply), walked: they return what the text Spec says. Condition: the operands are words.
   The document's operations on words (shift, flag, Apply), walked: they return what the text Spec says. Condition: the operands are words.
   The document's Apply as a plain function, and its contract in the print's form. Condition: the operands are words. -/
import Derived.Laws.BitsLemmas
import Derived.Test.YtggchfdjpfodfaaGf37
import Derived.Test.YtggchfdjpfodfaaGf38
import Derived.Test.YtggchfdjpfodfaaSpec
import Derived.StillTailTactics
import Derived.BigQuiet
import Derived.Test.YtggchfdjpfodfaaG0
set_option linter.unusedVariables false
set_option linter.unusedSimpArgs false
namespace Go.Proofs.Ytggchfdjpfodfaa.K

def bitsL : Nat → Int → List Int
  | 0, _ => []
  | n + 1, a => a % 2 :: bitsL n (a / 2)
def ofL : List Int → Int
  | [] => 0
  | b :: l => b + 2 * ofL l
/-- Two bits, by an operation's number. -/
def comb (op x y : Int) : Int := if (x + y = 2 ∧ op ≠ 11) ∨ (x + y = 1 ∧ op ≠ 9) then 1 else 0
def Bit01 (l : List Int) : Prop := ∀ x ∈ l, x = 0 ∨ x = 1
theorem bitsL_len : ∀ (n : Nat) (a : Int), (bitsL n a).length = n := by
  intro n
  induction n with
  | zero => intro a; rfl
  | succ n ih => intro a; simp [bitsL, ih]
theorem bitsL_01 : ∀ (n : Nat) (a : Int), Bit01 (bitsL n a) := by
  intro n
  induction n with
  | zero => intro a x h; simp [bitsL] at h
  | succ n ih =>
    intro a x h
    rcases List.mem_cons.1 h with rfl | h
    · omega
    · exact ih _ x h
theorem comb_01 (op : Int) : ∀ (xs ys : List Int), Bit01 (List.zipWith (comb op) xs ys) := by
  intro xs
  induction xs with
  | nil => intro ys x h; simp at h
  | cons a xs ih =>
    intro ys x h
    cases ys with
    | nil => simp at h
    | cons b ys =>
      simp only [List.zipWith_cons_cons, List.mem_cons] at h
      rcases h with rfl | h
      · unfold comb; split <;> omega
      · exact ih ys x h
theorem ofL_bd : ∀ {l : List Int}, Bit01 l → 0 ≤ ofL l ∧ ofL l < 2 ^ l.length := by
  intro l
  induction l with
  | nil => intro _; simp [ofL]
  | cons b l ih =>
    intro h
    have h1 := ih (fun x hx => h x (by simp [hx]))
    have h2 := h b (by simp)
    simp only [ofL, List.length_cons, Int.pow_succ]
    omega
theorem and_step (a b : Nat) : a &&& b = (a % 2 &&& b % 2) + 2 * (a / 2 &&& b / 2) := by
  have h1 : (a &&& b) / 2 = a / 2 &&& b / 2 := Nat.and_div_two
  have h2 : (a &&& b) % 2 ^ 1 = a % 2 ^ 1 &&& b % 2 ^ 1 := Nat.and_mod_two_pow
  rw [Nat.pow_one] at h2
  omega
theorem or_step (a b : Nat) : a ||| b = (a % 2 ||| b % 2) + 2 * (a / 2 ||| b / 2) := by
  have h1 : (a ||| b) / 2 = a / 2 ||| b / 2 := Nat.or_div_two
  have h2 : (a ||| b) % 2 ^ 1 = a % 2 ^ 1 ||| b % 2 ^ 1 := Nat.or_mod_two_pow
  rw [Nat.pow_one] at h2
  omega
theorem xor_step (a b : Nat) : a ^^^ b = (a % 2 ^^^ b % 2) + 2 * (a / 2 ^^^ b / 2) := by
  have h1 : (a ^^^ b) / 2 = a / 2 ^^^ b / 2 := Nat.xor_div_two
  have h2 : (a ^^^ b) % 2 ^ 1 = a % 2 ^ 1 ^^^ b % 2 ^ 1 := Nat.xor_mod_two_pow
  rw [Nat.pow_one] at h2
  omega
theorem bit_and (a b : Nat) : comb 9 ((a : Int) % 2) ((b : Int) % 2) = ((a % 2 &&& b % 2 : Nat) : Int) := by
  rcases Nat.mod_two_eq_zero_or_one a with h | h <;> rcases Nat.mod_two_eq_zero_or_one b with h' | h' <;> rw [show (a : Int) % 2 = ((a % 2 : Nat) : Int) by omega, show (b : Int) % 2 = ((b % 2 : Nat) : Int) by omega, h, h'] <;> rfl
theorem bit_or (a b : Nat) : comb 10 ((a : Int) % 2) ((b : Int) % 2) = ((a % 2 ||| b % 2 : Nat) : Int) := by
  rcases Nat.mod_two_eq_zero_or_one a with h | h <;> rcases Nat.mod_two_eq_zero_or_one b with h' | h' <;> rw [show (a : Int) % 2 = ((a % 2 : Nat) : Int) by omega, show (b : Int) % 2 = ((b % 2 : Nat) : Int) by omega, h, h'] <;> rfl
theorem bit_xor (a b : Nat) : comb 11 ((a : Int) % 2) ((b : Int) % 2) = ((a % 2 ^^^ b % 2 : Nat) : Int) := by
  rcases Nat.mod_two_eq_zero_or_one a with h | h <;> rcases Nat.mod_two_eq_zero_or_one b with h' | h' <;> rw [show (a : Int) % 2 = ((a % 2 : Nat) : Int) by omega, show (b : Int) % 2 = ((b % 2 : Nat) : Int) by omega, h, h'] <;> rfl
theorem of_and : ∀ (n a b : Nat), a < 2 ^ n → b < 2 ^ n → ofL (List.zipWith (comb 9) (bitsL n a) (bitsL n b)) = ((a &&& b : Nat) : Int) := by
  intro n
  induction n with
  | zero =>
    intro a b ha hb
    obtain rfl : a = 0 := by simpa using ha
    obtain rfl : b = 0 := by simpa using hb
    rfl
  | succ n ih =>
    intro a b ha hb
    rw [Nat.pow_succ] at ha hb
    simp only [bitsL, List.zipWith_cons_cons, ofL]
    rw [show (a : Int) / 2 = ((a / 2 : Nat) : Int) by omega, show (b : Int) / 2 = ((b / 2 : Nat) : Int) by omega, ih _ _ (by omega) (by omega), bit_and, and_step a b]
    omega
theorem of_or : ∀ (n a b : Nat), a < 2 ^ n → b < 2 ^ n → ofL (List.zipWith (comb 10) (bitsL n a) (bitsL n b)) = ((a ||| b : Nat) : Int) := by
  intro n
  induction n with
  | zero =>
    intro a b ha hb
    obtain rfl : a = 0 := by simpa using ha
    obtain rfl : b = 0 := by simpa using hb
    rfl
  | succ n ih =>
    intro a b ha hb
    rw [Nat.pow_succ] at ha hb
    simp only [bitsL, List.zipWith_cons_cons, ofL]
    rw [show (a : Int) / 2 = ((a / 2 : Nat) : Int) by omega, show (b : Int) / 2 = ((b / 2 : Nat) : Int) by omega, ih _ _ (by omega) (by omega), bit_or, or_step a b]
    omega
theorem of_xor : ∀ (n a b : Nat), a < 2 ^ n → b < 2 ^ n → ofL (List.zipWith (comb 11) (bitsL n a) (bitsL n b)) = ((a ^^^ b : Nat) : Int) := by
  intro n
  induction n with
  | zero =>
    intro a b ha hb
    obtain rfl : a = 0 := by simpa using ha
    obtain rfl : b = 0 := by simpa using hb
    rfl
  | succ n ih =>
    intro a b ha hb
    rw [Nat.pow_succ] at ha hb
    simp only [bitsL, List.zipWith_cons_cons, ofL]
    rw [show (a : Int) / 2 = ((a / 2 : Nat) : Int) by omega, show (b : Int) / 2 = ((b / 2 : Nat) : Int) by omega, ih _ _ (by omega) (by omega), bit_xor, xor_step a b]
    omega
theorem bits_u32 {a b : Int} (ha : 0 ≤ a ∧ a ≤ 4294967295) (hb : 0 ≤ b ∧ b ≤ 4294967295) :
    Go.bits .and .u32 a b = ofL (List.zipWith (comb 9) (bitsL 32 a) (bitsL 32 b)) ∧ Go.bits .or .u32 a b = ofL (List.zipWith (comb 10) (bitsL 32 a) (bitsL 32 b)) ∧ Go.bits .xor .u32 a b = ofL (List.zipWith (comb 11) (bitsL 32 a) (bitsL 32 b)) := by
  obtain ⟨x, rfl⟩ := Int.eq_ofNat_of_zero_le ha.1
  obtain ⟨y, rfl⟩ := Int.eq_ofNat_of_zero_le hb.1
  have hx : x < 2 ^ 32 := by omega
  have hy : y < 2 ^ 32 := by omega
  have hk : ∀ n : Int, 0 ≤ n → n < 2 ^ 32 → IntKind.u32.wrap n = n := fun n h0 h1 => by rw [IntKind.wrap_u32]; omega
  have h1 := bits_nat .u32 32 (by decide) hk x y hx hy
  have hx' : x % 2 ^ IntKind.u32.bits = x := Nat.mod_eq_of_lt hx
  have hy' : y % 2 ^ IntKind.u32.bits = y := Nat.mod_eq_of_lt hy
  refine ⟨?_, ?_, ?_⟩
  · rw [of_and 32 x y hx hy]; exact h1.1
  · rw [of_or 32 x y hx hy]; exact h1.2
  · rw [of_xor 32 x y hx hy]
    have hlt : x ^^^ y < 2 ^ 32 := Nat.xor_lt_two_pow hx hy
    have e : Go.bits .xor .u32 (x : Int) (y : Int) = IntKind.u32.wrap ((x ^^^ y : Nat) : Int) := by
      simp only [Go.bits, BitVec.ofInt_natCast, BitVec.toNat_xor, BitVec.toNat_ofNat, hx', hy']
    rw [e]
    exact hk _ (by omega) (by omega)
end Go.Proofs.Ytggchfdjpfodfaa.K
set_option linter.unusedVariables false
set_option linter.unusedSimpArgs false
namespace Go.Proofs.Ytggchfdjpfodfaa.K
open Go.RowKit Go.Proofs.YtggchfdjpfodfaaW.PrintWords Go.Proofs.YtggchfdjpfodfaaW.PrintLast Go.Proofs.YtggchfdjpfodfaaW.PrintMore Go.Proofs.Ytggchfdjpfodfaa.G
open Sp

theorem wr64 {n : Int} (h0 : -9223372036854775808 ≤ n) (h1 : n ≤ 9223372036854775807) : wrap64 n = n := by unfold wrap64; omega
theorem wu64 {n : Int} (h0 : 0 ≤ n) (h1 : n ≤ 18446744073709551615) : IntKind.u64.wrap n = n := by
  rw [show IntKind.u64.wrap n = n % 18446744073709551616 by simp [IntKind.wrap, IntKind.bits, IntKind.signed]]
  omega
theorem wu64' (n : Int) : IntKind.u64.wrap n = n % 18446744073709551616 := by simp [IntKind.wrap, IntKind.bits, IntKind.signed]
theorem bits_plain : ∀ (n k : Nat) (a : Int) (xs : List Int), n < k → n ≤ 32 → 0 ≤ a ∧ a ≤ 4294967295 → xs.length + n ≤ 32 → seedcornref01_Bits.l0 k a xs (32 - (n : Int)) = some (xs ++ bitsL n a) := by
  intro n
  induction n with
  | zero =>
    intro k a xs hk _ _ _
    obtain ⟨k, rfl⟩ : ∃ k', k = k' + 1 := ⟨k - 1, by omega⟩
    simp [seedcornref01_Bits.l0, bitsL]
  | succ n ih =>
    intro k a xs hk hn ha hl
    obtain ⟨k, rfl⟩ : ∃ k', k = k' + 1 := ⟨k - 1, by omega⟩
    unfold seedcornref01_Bits.l0
    rw [if_pos (by omega), if_pos (by omega)]
    have e1 : Int.tdiv a 2 % 4294967296 = a / 2 := by rw [Int.tdiv_eq_ediv_of_nonneg ha.1]; omega
    have e2 : wrap64 (Int.tmod a 2) = a % 2 := by rw [Int.tmod_eq_emod_of_nonneg ha.1, wr64 (by omega) (by omega)]
    have e3 : wrap64 (32 - ((n + 1 : Nat) : Int) + 1) = 32 - (n : Int) := by rw [wr64 (by omega) (by omega)]; omega
    rw [e1, e2, e3, ih k (a / 2) _ (by omega) (by omega) (by omega) (by simp; omega)]
    simp [bitsL]
theorem ofL_drop {l : List Int} {i : Nat} (h : i < l.length) : ofL (l.drop i) = rd l (i : Int) + 2 * ofL (l.drop (i + 1)) := by
  rw [List.drop_eq_getElem_cons h]
  unfold rd
  rw [Int.toNat_natCast, List.getD_eq_getElem?_getD, List.getElem?_eq_getElem h]
  rfl
theorem bit01_drop {l : List Int} (h : Bit01 l) (i : Nat) : Bit01 (l.drop i) := fun x hx => h x (List.mem_of_mem_drop hx)
theorem ofL_32 {l : List Int} (h : Bit01 l) (hl : l.length ≤ 32) : 0 ≤ ofL l ∧ ofL l < 4294967296 := by
  have h1 := ofL_bd h
  have h2 : (2 : Int) ^ l.length ≤ 2 ^ 32 := by
    have : 2 ^ l.length ≤ 2 ^ 32 := Nat.pow_le_pow_right (by decide) hl
    exact_mod_cast this
  omega
theorem of_plain : ∀ (i k : Nat) (l : List Int), i ≤ l.length → i < k → l.length ≤ 32 → Bit01 l → seedcornref01_Of.l0 k l (ofL (l.drop i)) ((i : Int) - 1) = some (ofL l) := by
  intro i
  induction i with
  | zero =>
    intro k l _ hk hl hb
    obtain ⟨k, rfl⟩ : ∃ k', k = k' + 1 := ⟨k - 1, by omega⟩
    have h1 := ofL_32 hb hl
    unfold seedcornref01_Of.l0
    rw [if_neg (by omega), List.drop_zero, Int.tmod_eq_emod_of_nonneg h1.1]
    congr 1
    omega
  | succ i ih =>
    intro k l hi hk hl hb
    obtain ⟨k, rfl⟩ : ∃ k', k = k' + 1 := ⟨k - 1, by omega⟩
    have h1 := ofL_32 (bit01_drop hb (i + 1)) (by simp; omega)
    have h2 := ofL_32 (bit01_drop hb i) (by simp; omega)
    rw [ofL_drop (show i < l.length by omega)] at h2
    have h3 : rd l (i : Int) = 0 ∨ rd l (i : Int) = 1 := by
      unfold rd
      rw [Int.toNat_natCast, List.getD_eq_getElem?_getD, List.getElem?_eq_getElem (by omega)]
      exact hb _ (List.getElem_mem _)
    unfold seedcornref01_Of.l0
    rw [if_pos (by omega), if_pos (by omega), if_pos (by omega)]
    have e0 : ((i + 1 : Nat) : Int) - 1 = (i : Int) := by omega
    rw [e0]
    rw [wu64 (n := 2 * ofL (l.drop (i + 1))) (by omega) (by omega), wu64 (n := rd l (i : Int)) (by omega) (by omega), wu64 (by omega) (by omega), wr64 (by omega) (by omega)]
    rw [show 2 * ofL (l.drop (i + 1)) + rd l (i : Int) = ofL (l.drop i) by rw [ofL_drop (show i < l.length by omega)]; omega]
    exact ih k l (by omega) (by omega) hl hb
theorem of_f {l : List Int} {k : Nat} (hk : 33 ≤ k) (hl : l.length ≤ 32) (hb : Bit01 l) : seedcornref01_Of.f k l = some (ofL l) := by
  unfold seedcornref01_Of.f
  rw [wr64 (by omega) (by omega)]
  have := of_plain l.length k l (Nat.le_refl _) (by omega) hl hb
  rw [List.drop_length] at this
  exact this
end Go.Proofs.Ytggchfdjpfodfaa.K
set_option linter.unusedVariables false
set_option linter.unusedSimpArgs false
namespace Go.Proofs.Ytggchfdjpfodfaa.K
open Go.RowKit Go.Proofs.YtggchfdjpfodfaaW.PrintWords Go.Proofs.YtggchfdjpfodfaaW.PrintLast Go.Proofs.YtggchfdjpfodfaaW.PrintMore Go.Proofs.Ytggchfdjpfodfaa.G
open Sp

theorem bits_calls (a : Int) (ha : W32 a) (w : World) : Calls Try.prog 37 #[.int .u32 a] w fun e w' => ∃ g c, e = .returned (.slice (some ⟨g, 0, none⟩) 32 c) ∧ w.heap.size ≤ g ∧ g < w'.heap.size ∧ Kd.R (Kd.int .i64) 3 w' w.heap.size (fun _ => True) (.slice (some ⟨g, 0, none⟩) 32 c) (bitsL 32 a) ∧ Below w.heap.size w w' := by
  have h1 := bits_plain 32 100 a [] (by omega) (Nat.le_refl _) ha (by simp)
  refine (seedcornref01_Bits.calls 100 a (bitsL 32 a) w (by simpa [seedcornref01_Bits.f] using h1)).mono ?_
  rintro e w' ⟨v, rfl, hR, hb⟩
  obtain ⟨g, c, rfl, h2, h3, _⟩ := Kd.R_form hR (by rw [bitsL_len]; omega)
  rw [bitsL_len] at hR ⊢
  exact ⟨g, c, rfl, h2, h3, hR, hb⟩
theorem of_calls01 (A : Option Addr) (c : Nat) (l : List Int) (w : World) (n : Nat) (hn : n = l.length) (hr : Kd.C (Kd.int .i64) w A n l) (hc : n ≤ c) (hl : l.length ≤ 32) (hb : Bit01 l) :
    Calls Try.prog 38 #[.slice A n c] w fun e w' => e = .returned (.int .u32 (ofL l)) ∧ Drawn0 w w' := by
  subst hn
  exact seedcornref01_Of.calls 100 A c l _ w hr hc (of_f (by omega) hl hb)

def mixL (op : Int) (xs ys : List Int) (k : Nat) : List Int := (List.zipWith (comb op) xs ys).take k ++ xs.drop k
theorem mix_rd {op : Int} {xs ys : List Int} {k : Nat} (h : k < xs.length) (hl : ys.length = xs.length) : rd (mixL op xs ys k) (k : Int) = rd xs (k : Int) := by
  unfold rd mixL
  rw [Int.toNat_natCast, List.getD_eq_getElem?_getD, List.getElem?_append_right (by simp; omega)]
  simp only [List.length_take, List.length_zipWith, hl, Nat.min_self]
  rw [Nat.min_eq_left (by omega), Nat.sub_self, List.getElem?_drop, Nat.add_zero, List.getD_eq_getElem?_getD]
theorem mix_set {op : Int} {xs ys : List Int} {k : Nat} (h : k < xs.length) (hl : ys.length = xs.length) {z : Int} (hz : z = comb op (rd xs (k : Int)) (rd ys (k : Int))) : (mixL op xs ys k).set k z = mixL op xs ys (k + 1) := by
  subst hz
  unfold rd mixL
  have hzl : (List.zipWith (comb op) xs ys).length = xs.length := by simp [hl]
  rw [List.set_append_right _ _ (by simp; omega)]
  simp only [List.length_take, hzl]
  rw [Nat.min_eq_left (by omega), Nat.sub_self, List.drop_eq_getElem_cons h, List.set_cons_zero, List.take_succ_eq_append_getElem (by omega)]
  simp only [List.append_assoc, List.singleton_append, List.getElem_zipWith, Int.toNat_natCast, List.getD_eq_getElem?_getD]
  rw [List.getElem?_eq_getElem h, List.getElem?_eq_getElem (by omega)]
  rfl
theorem rd_bit {l : List Int} (h : Bit01 l) {k : Nat} (hk : k < l.length) : rd l (k : Int) = 0 ∨ rd l (k : Int) = 1 := by
  unfold rd
  rw [Int.toNat_natCast, List.getD_eq_getElem?_getD, List.getElem?_eq_getElem hk]
  exact h _ (List.getElem_mem _)

set_option maxHeartbeats 2000000 in
set_option maxRecDepth 100000 in
theorem both_calls (op a b : Int) (ha : W32 a) (hb : W32 b) (w : World) : Calls Try.prog 32 #[.int .i64 op, .int .u32 a, .int .u32 b] w fun e w' => e = .returned (.int .u32 (ofL (List.zipWith (comb op) (bitsL 32 a) (bitsL 32 b)))) ∧ Below w.heap.size w w' := by
  go_enter Try.func32, Try.ntmps32
  go_wp2_with (fail)
  refine (bits_calls a ha w).mono ?_
  rintro e w1 ⟨g1, c1, rfl, hg1, hg1', R1, hb1⟩
  go_wp2_with (fail)
  refine (bits_calls b hb w1).mono ?_
  rintro e w2 ⟨g2, c2, rfl, hg2, hg2', R2, hb2⟩
  have R1' := Kd.R_below R1 hb2
  obtain ⟨hq2, hc2, hC2⟩ := Kd.R_reads' R2
  clear hq2
  have hB2 := below_then hb1 hb1.size hb2
  have hx01 := bitsL_01 32 a
  have hy01 := bitsL_01 32 b
  have hxl := bitsL_len 32 a
  have hyl := bitsL_len 32 b
  have hz01 := comb_01 op (bitsL 32 a) (bitsL 32 b)
  have R2' := Kd.R_lower (Kd.R_far1 R2 rfl (g := g1) (by simp [Value.ownBlock]; omega)) hb1.size
  obtain ⟨xs, hxs⟩ : ∃ xs, xs = bitsL 32 a := ⟨_, rfl⟩
  obtain ⟨ys, hys⟩ : ∃ ys, ys = bitsL 32 b := ⟨_, rfl⟩
  rw [← hxs] at R1' hx01 hxl hz01
  rw [← hys] at R2' hy01 hyl hz01
  have Hxs := Aside0.mk hxs
  have Hys := Aside0.mk hys
  have hz0 : mixL op xs ys 0 = xs := by simp [mixL]
  have hz32 : mixL op xs ys 32 = List.zipWith (comb op) xs ys := by
    unfold mixL
    rw [List.take_of_length_le (by simp; omega), List.drop_of_length_le (by omega), List.append_nil]
  clear R1 R2 hb1 hb2 hxs hys hC2
  go_wp2_with (fail)
  go_loopw [9, 10] (fun i v10 wr => ∃ k : Nat, k ≤ 32 ∧ i = .int .i64 k ∧ Aside0 (Kd.R (Kd.int .i64) 3 wr w.heap.size (fun _ => True) (.slice (some ⟨g1, 0, none⟩) 32 c1) (mixL op xs ys k)) ∧ Aside0 (Kd.R (Kd.int .i64) 3 wr w.heap.size (fun q => True ∧ q ≠ g1) (.slice (some ⟨g2, 0, none⟩) 32 c2) ys) ∧ Aside0 (w2.heap.size ≤ wr.heap.size) ∧ Aside0 (Below w.heap.size w wr)) (fun i _ _ => 32 - (intOf i).toNat)
  case atStart => exact ⟨0, Nat.zero_le _, rfl, ⟨by rw [hz0]; exact R1'⟩, ⟨R2'⟩, ⟨Nat.le_refl _⟩, ⟨hB2⟩⟩
  case round =>
    clear R1' R2' hB2 hz0
    obtain ⟨k, hk, rfl, HR, HC, HS, HB⟩ := hrel
    obtain ⟨wo, rfl⟩ : ∃ wo : World, wo = wr := ⟨_, rfl⟩
    by_cases hlt : k < 32
    · obtain ⟨hx0, hxf⟩ := Kd.R_celln 0 HR.out (k : Int) (by omega) (by omega)
      obtain ⟨ad, e2, hy0⟩ := Kd.at_int (Kd.R_reads' HC.out).2.2 (k : Int) (by omega) (by omega)
      obtain rfl : (⟨g2, 0, none⟩ : Addr) = ad := by injection e2
      rw [add_plain] at hy0
      simp only [Int.toNat_natCast] at hx0 hxf hy0
      replace hx0 : wo.cell? ⟨g1, k, none⟩ = some (.int .i64 (rd (mixL op xs ys k) (k : Int))) := hx0
      rw [mix_rd (by omega) (by omega)] at hx0
      have hset : ∀ z, z = comb op (rd xs (k : Int)) (rd ys (k : Int)) → (mixL op xs ys k).set k z = mixL op xs ys (k + 1) := fun z hz => mix_set (by omega) (by omega) hz
      have hx := rd_bit hx01 (k := k) (by omega)
      have hy := rd_bit hy01 (k := k) (by omega)
      have Hset := Aside0.mk hset
      clear hset
      generalize rd xs (k : Int) = x at *
      generalize rd ys (k : Int) = y at *
      have hne : g2 ≠ g1 := by omega
      clear e2 hz32 hz01 hx01 hy01
      rcases hx with rfl | rfl <;> rcases hy with rfl | rfl <;> by_cases h9 : op = 9 <;> by_cases h11 : op = 11
      all_goals first
        | (exfalso; omega)
        | skip
      all_goals
          go_upto_region 5 with (fail)
          go_quiet (fail)
          go_wp2_with (fail)
          go_roundw
          case rel => first | exact ⟨k + 1, hlt, by go_num, ⟨by rw [← Hset.out 0 (by simp [comb, *])]; exact (Kd.R_putg (Kd.R_drewN HR.out _) (k : Int) 0).1⟩, ⟨Kd.R_far (Kd.R_drewN HC.out _) (fun q hq => hq.2) _⟩, ⟨by simpa using HS.out⟩, ⟨(pw_below_drewN HB.out _).setCell (p := ⟨g1, k, none⟩) hg1 _⟩⟩ | exact ⟨k + 1, hlt, by go_num, ⟨by rw [← Hset.out 1 (by simp [comb, *])]; have h := (Kd.R_putg (Kd.R_putg (Kd.R_drewN HR.out nq) (k : Int) 0).1 (k : Int) 1).1; rw [List.set_set] at h; exact h⟩, ⟨Kd.R_far (Kd.R_far (Kd.R_drewN HC.out _) (fun q hq => hq.2) _) (fun q hq => hq.2) _⟩, ⟨by simpa using HS.out⟩, ⟨((pw_below_drewN HB.out _).setCell (p := ⟨g1, k, none⟩) hg1 _).setCell (p := ⟨g1, k, none⟩) hg1 _⟩⟩
          case measure => simp [intOf]; omega
    · have hk' : k = 32 := by omega
      subst hk'
      go_wp2_with (fail)
      have hR := HR.out
      rw [hz32] at hR
      obtain ⟨hq, hc1, hC1⟩ := Kd.R_reads' hR
      have hzl : (List.zipWith (comb op) xs ys).length = 32 := hq.symm
      clear hq
      refine (of_calls01 _ c1 (List.zipWith (comb op) xs ys) wo 32 hzl.symm (by rw [hzl] at hC1; exact hC1) hc1 (by omega) hz01).mono ?_
      rintro e w5 ⟨rfl, hd⟩
      have hB5 : Below w.heap.size w w5 := by obtain ⟨m, rfl⟩ := hd; exact pw_below_drewN HB.out m
      rw [Hxs.out, Hys.out]
      clear hzl hz01 hz32 hR hC1 hd
      go_wp2_with (fail)
      go_ret
      exact ⟨rfl, hB5⟩
end Go.Proofs.Ytggchfdjpfodfaa.K
set_option linter.unusedVariables false
set_option linter.unusedSimpArgs false
namespace Go.Proofs.Ytggchfdjpfodfaa.K
open Go.RowKit Go.Proofs.YtggchfdjpfodfaaW.PrintWords Go.Proofs.YtggchfdjpfodfaaW.PrintLast Go.Proofs.YtggchfdjpfodfaaW.PrintMore Go.Proofs.Ytggchfdjpfodfaa.G
open Sp

theorem flag_calls (b : Bool) (w : World) : Calls Try.prog 34 #[.bool b] w fun e w' => e = .returned (.int .u32 (if b = true then 1 else 0)) ∧ w' = w := by
  cases b
  · go_enter Try.func34, Try.ntmps34
    go_wp2_with (fail)
    go_ret
    exact ⟨rfl, rfl⟩
  · go_enter Try.func34, Try.ntmps34
    go_wp2_with (fail)
    go_ret
    exact ⟨rfl, rfl⟩
def shlP (a : Int) (k : Nat) : Int := a * 2 ^ k % 4294967296
def shrP (a : Int) (k : Nat) : Int := a / 2 ^ k
theorem shlP_step (a : Int) (k : Nat) : 2 * shlP a k % 4294967296 = shlP a (k + 1) := by
  unfold shlP
  rw [Int.pow_succ]
  have : a * (2 ^ k * 2) = 2 * (a * 2 ^ k) := by rw [← Int.mul_assoc, Int.mul_comm]
  rw [this]
  omega
theorem shrP_step (a : Int) (k : Nat) : shrP a k / 2 = shrP a (k + 1) := by
  unfold shrP
  rw [Int.pow_succ, Int.ediv_ediv_of_nonneg (Int.pow_nonneg (by omega))]
theorem shlP_bd (a : Int) (k : Nat) : 0 ≤ shlP a k ∧ shlP a k ≤ 4294967295 := by unfold shlP; omega
theorem shrP_bd {a : Int} (ha : W32 a) (k : Nat) : 0 ≤ shrP a k ∧ shrP a k ≤ 4294967295 := by
  unfold shrP
  have hp : (0 : Int) ≤ 2 ^ k := Int.pow_nonneg (by omega)
  exact ⟨Int.ediv_nonneg ha.1 hp, Int.le_trans (Int.ediv_le_self _ ha.1) ha.2⟩
set_option maxHeartbeats 1000000 in
set_option maxRecDepth 100000 in
theorem shl_calls (a b : Int) (ha : W32 a) (hb : W32 b) (w : World) : Calls Try.prog 33 #[.int .i64 12, .int .u32 a, .int .u32 b] w fun e w' => e = .returned (.int .u32 (if 32 ≤ b then 0 else shlP a b.toNat)) ∧ w' = w := by
  obtain ⟨ha0, ha1⟩ := ha
  obtain ⟨hb0, hb1⟩ := hb
  by_cases h32 : 32 ≤ b
  · rw [if_pos h32]
    go_enter Try.func33, Try.ntmps33
    go_wp2_with (fail)
    go_ret
    exact ⟨rfl, rfl⟩
  · rw [if_neg h32]
    go_enter Try.func33, Try.ntmps33
    go_wp2_with (fail)
    go_loopw [7, 8] (fun v7 v8 wr => ∃ k : Nat, (k : Int) ≤ b ∧ v7 = .int .u64 (shlP a k) ∧ v8 = .int .u32 k ∧ wr = w) (fun _ i _ => b.toNat - (intOf i).toNat)
    case atStart => exact ⟨0, by omega, by simp [shlP]; omega, rfl, rfl⟩
    case round =>
      obtain ⟨k, hk, rfl, rfl, rfl⟩ := hrel
      by_cases hlt : (k : Int) < b
      · have hst := shlP_step a k
        have hbd := shlP_bd a k
        have Hst := Aside0.mk hst
        clear hst
        generalize shlP a k = x at *
        obtain ⟨hx0, hx1⟩ := hbd
        go_wp2_with (fail)
        go_roundw
        case rel => exact ⟨k + 1, by omega, by rw [Hst.out], by simp, trivial⟩
        case measure => simp [intOf]; omega
      · have hk' : b = k := by omega
        subst hk'
        have hbd := shlP_bd a k
        obtain ⟨hx0, hx1⟩ := hbd
        have hm : shlP a k % 4294967296 = shlP a k := by omega
        go_wp2_with (fail)
        go_ret
        exact ⟨rfl, rfl⟩
set_option maxHeartbeats 1000000 in
set_option maxRecDepth 100000 in
theorem shr_calls (op a b : Int) (hop : op ≠ 12) (ha : W32 a) (hb : W32 b) (w : World) : Calls Try.prog 33 #[.int .i64 op, .int .u32 a, .int .u32 b] w fun e w' => e = .returned (.int .u32 (if 32 ≤ b then 0 else shrP a b.toNat)) ∧ w' = w := by
  obtain ⟨ha0, ha1⟩ := ha
  obtain ⟨hb0, hb1⟩ := hb
  by_cases h32 : 32 ≤ b
  · rw [if_pos h32]
    go_enter Try.func33, Try.ntmps33
    go_wp2_with (fail)
    go_ret
    exact ⟨rfl, rfl⟩
  · rw [if_neg h32]
    go_enter Try.func33, Try.ntmps33
    go_wp2_with (fail)
    go_loopw [7, 8] (fun v7 v8 wr => ∃ k : Nat, (k : Int) ≤ b ∧ v7 = .int .u64 (shrP a k) ∧ v8 = .int .u32 k ∧ wr = w) (fun _ i _ => b.toNat - (intOf i).toNat)
    case atStart => exact ⟨0, by omega, by simp [shrP], rfl, rfl⟩
    case round =>
      obtain ⟨k, hk, rfl, rfl, rfl⟩ := hrel
      by_cases hlt : (k : Int) < b
      · have hst := shrP_step a k
        have hbd := shrP_bd ⟨ha0, ha1⟩ k
        have Hst := Aside0.mk hst
        clear hst
        generalize shrP a k = x at *
        obtain ⟨hx0, hx1⟩ := hbd
        go_wp2_with (fail)
        go_roundw
        case rel => exact ⟨k + 1, by omega, by rw [Hst.out], by simp, trivial⟩
        case measure => simp [intOf]; omega
      · have hk' : b = k := by omega
        subst hk'
        have hbd := shrP_bd ⟨ha0, ha1⟩ k
        obtain ⟨hx0, hx1⟩ := hbd
        have hm : shrP a k % 4294967296 = shrP a k := by omega
        go_wp2_with (fail)
        go_ret
        exact ⟨rfl, rfl⟩

theorem app_shl {a b : Int} (hb : W32 b) : (if 32 ≤ b then 0 else shlP a b.toNat) = (app 12 a b).1 := by
  unfold app
  simp only [show ¬ ((12 : Int) = 4) by omega, show ¬ ((12 : Int) = 5) by omega, show ¬ ((12 : Int) = 6) by omega, show ¬ ((12 : Int) = 7) by omega, show ¬ ((12 : Int) = 8) by omega, show ¬ ((12 : Int) = 9) by omega, show ¬ ((12 : Int) = 10) by omega, show ¬ ((12 : Int) = 11) by omega, if_false, if_true]
  by_cases h : 32 ≤ b
  · rw [if_pos h, Nat.min_eq_right (by omega)]
    omega
  · rw [if_neg h, Nat.min_eq_left (by omega)]
    rfl
theorem app_shr {a b : Int} (ha : W32 a) (hb : W32 b) : (if 32 ≤ b then 0 else shrP a b.toNat) = (app 13 a b).1 := by
  unfold app
  simp only [show ¬ ((13 : Int) = 4) by omega, show ¬ ((13 : Int) = 5) by omega, show ¬ ((13 : Int) = 6) by omega, show ¬ ((13 : Int) = 7) by omega, show ¬ ((13 : Int) = 8) by omega, show ¬ ((13 : Int) = 9) by omega, show ¬ ((13 : Int) = 10) by omega, show ¬ ((13 : Int) = 11) by omega, show ¬ ((13 : Int) = 12) by omega, if_false, if_true]
  by_cases h : 32 ≤ b
  · rw [if_pos h, Nat.min_eq_right (by omega)]
    have := ha.1
    have := ha.2
    omega
  · rw [if_neg h, Nat.min_eq_left (by omega)]
    rfl
theorem ret2 {x y x' y' : Int} (hx : x = x') (hy : y = y') : Ending.returned (.tuple #[.int .u32 x, .int .i64 y]) = Ending.returned (.tuple #[.int .u32 x', .int .i64 y']) := by rw [hx, hy]
set_option maxHeartbeats 2000000 in
set_option maxRecDepth 100000 in
theorem refapp_calls (op a b : Int) (ha : W32 a) (hb : W32 b) (w : World) : Calls Try.prog 26 #[.int .i64 op, .int .u32 a, .int .u32 b] w fun e w' => e = .returned (.tuple #[.int .u32 (app op a b).1, .int .i64 (app op a b).2]) ∧ Below w.heap.size w w' := by
  have hbits := bits_u32 ha hb
  have hq := ha
  have hq' := hb
  obtain ⟨ha0, ha1⟩ := ha
  obtain ⟨hb0, hb1⟩ := hb
  by_cases h4 : op = 4
  · subst h4
    go_enter Try.func26, Try.ntmps26
    go_wp2_with (fail)
    go_ret2
    exact ⟨ret2 (by simp [app]) (by simp [app]), Below.refl _ _⟩
  by_cases h5 : op = 5
  · subst h5
    go_enter Try.func26, Try.ntmps26
    go_wp2_with (fail)
    go_ret2
    exact ⟨ret2 (by simp [app]; omega) (by simp [app]), Below.refl _ _⟩
  by_cases h6 : op = 6
  · subst h6
    go_enter Try.func26, Try.ntmps26
    go_wp2_with (fail)
    go_ret2
    exact ⟨ret2 (by rw [wu64', Int.tmod_eq_emod_of_nonneg (by omega)]; simp [app] <;> omega) (by simp [app]), Below.refl _ _⟩
  by_cases h7 : op = 7
  · subst h7
    by_cases hz : b = 0
    · subst hz
      go_enter Try.func26, Try.ntmps26
      go_wp2_with (fail)
      go_ret2
      exact ⟨ret2 (by simp [app]) (by simp [app]), Below.refl _ _⟩
    · go_enter Try.func26, Try.ntmps26
      go_wp2_with (fail)
      go_ret2
      exact ⟨ret2 (by simp [app, hz]; rw [Int.tdiv_eq_ediv_of_nonneg ha0]) (by simp [app, hz]), Below.refl _ _⟩
  by_cases h8 : op = 8
  · subst h8
    by_cases hz : b = 0
    · subst hz
      go_enter Try.func26, Try.ntmps26
      go_wp2_with (fail)
      go_ret2
      exact ⟨ret2 (by simp [app]) (by simp [app]), Below.refl _ _⟩
    · go_enter Try.func26, Try.ntmps26
      go_wp2_with (fail)
      go_ret2
      have h1 := Int.emod_nonneg a hz
      have h2 := Int.emod_lt_of_pos a (b := b) (by omega)
      exact ⟨ret2 (by simp [app, hz]; omega) (by simp [app, hz]), Below.refl _ _⟩
  by_cases h9 : op = 9
  · subst h9
    go_enter Try.func26, Try.ntmps26
    go_wp2_with (fail)
    refine (both_calls 9 a b hq hq' w).mono ?_
    rintro e w1 ⟨rfl, hb1⟩
    go_wp2_with (fail)
    go_ret2
    exact ⟨ret2 hbits.1.symm rfl, hb1⟩
  by_cases h10 : op = 10
  · subst h10
    go_enter Try.func26, Try.ntmps26
    go_wp2_with (fail)
    refine (both_calls 10 a b hq hq' w).mono ?_
    rintro e w1 ⟨rfl, hb1⟩
    go_wp2_with (fail)
    go_ret2
    exact ⟨ret2 hbits.2.1.symm rfl, hb1⟩
  by_cases h11 : op = 11
  · subst h11
    go_enter Try.func26, Try.ntmps26
    go_wp2_with (fail)
    refine (both_calls 11 a b hq hq' w).mono ?_
    rintro e w1 ⟨rfl, hb1⟩
    go_wp2_with (fail)
    go_ret2
    exact ⟨ret2 hbits.2.2.symm rfl, hb1⟩
  by_cases h12 : op = 12
  · subst h12
    go_enter Try.func26, Try.ntmps26
    go_wp2_with (fail)
    refine (shl_calls a b hq hq' w).mono ?_
    rintro e w1 ⟨rfl, rfl⟩
    rw [app_shl hq']
    go_wp2_with (fail)
    go_ret2
    exact ⟨ret2 rfl (by simp [app]), Below.refl _ _⟩
  by_cases h13 : op = 13
  · subst h13
    go_enter Try.func26, Try.ntmps26
    go_wp2_with (fail)
    refine (shr_calls 13 a b (by omega) hq hq' w).mono ?_
    rintro e w1 ⟨rfl, rfl⟩
    rw [app_shr hq hq']
    go_wp2_with (fail)
    go_ret2
    exact ⟨ret2 rfl (by simp [app]), Below.refl _ _⟩
  by_cases h14 : op = 14
  · subst h14
    by_cases hc : a < b
    all_goals
      go_enter Try.func26, Try.ntmps26
      go_wp2_with (fail)
      refine (flag_calls _ w).mono ?_
      rintro e w1 ⟨rfl, rfl⟩
      go_wp2_with (fail)
      go_ret2
      exact ⟨ret2 (by simp [app, hc]) (by simp [app]), Below.refl _ _⟩
  by_cases h15 : op = 15
  · subst h15
    by_cases hc : a = b
    all_goals
      go_enter Try.func26, Try.ntmps26
      go_wp2_with (fail)
      refine (flag_calls _ w).mono ?_
      rintro e w1 ⟨rfl, rfl⟩
      go_wp2_with (fail)
      go_ret2
      exact ⟨ret2 (by simp [app, hc]) (by simp [app]), Below.refl _ _⟩
  go_enter Try.func26, Try.ntmps26
  go_wp2_with (fail)
  go_ret2
  exact ⟨ret2 (by simp [app, *]) (by simp [app, *]), Below.refl _ _⟩
end Go.Proofs.Ytggchfdjpfodfaa.K
set_option linter.unusedVariables false
namespace Go.Proofs.Ytggchfdjpfodfaa.G
open Go.RowKit Go.Proofs.YtggchfdjpfodfaaW.PrintWords Go.Proofs.YtggchfdjpfodfaaW.PrintLast Go.Proofs.YtggchfdjpfodfaaW.PrintMore
open Sp K

instance decW32a (x : Int) : Decidable (W32 x) := by unfold W32; infer_instance
def seedcornref01_Apply.f (op a b : Int) : Option (Int × Int) :=
  if W32 a ∧ W32 b then some (app op a b) else none
theorem seedcornref01_Apply.ok {op a b : Int} (h : W32 a ∧ W32 b) : seedcornref01_Apply.f op a b = some (app op a b) := if_pos h
theorem seedcornref01_Apply.calls (a0 : Int) (a1 : Int) (a2 : Int) (r1 : Int) (r2 : Int) (w : World) (h : seedcornref01_Apply.f a0 a1 a2 = some (r1, r2)) :
    Calls Try.prog 26 #[.int .i64 a0, .int .u32 a1, .int .u32 a2] w fun e w' => e = .returned (.tuple #[.int .u32 r1, .int .i64 r2]) ∧ Below w.heap.size w w' := by
  by_cases hk : W32 a1 ∧ W32 a2
  · rw [seedcornref01_Apply.ok hk] at h
    injection h with h
    have h1 : r1 = (app a0 a1 a2).1 := by rw [h]
    have h2 : r2 = (app a0 a1 a2).2 := by rw [h]
    subst h1 h2
    exact refapp_calls _ _ _ hk.1 hk.2 w
  · rw [show seedcornref01_Apply.f a0 a1 a2 = none from if_neg hk] at h
    cases h
end Go.Proofs.Ytggchfdjpfodfaa.G
