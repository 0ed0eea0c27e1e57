/- A program in blocks as an argument: what a value of the type reads as. No condition.
   The plain laws behind FoldTwice: folding again changes nothing; and what is changed is a copy or an operation, to a constant. Condition: the instructions may be.
   The plain law behind the document's fold: what two rows, of known and of values, have to do with what is known. Condition: the instructions may be.
   The plain law behind FoldOf: the document's fold, as the print tells it, is what fold.Of makes. Condition: the program is small. -/
import Derived.Test.YtggchfdjpfodfaaOP
import Derived.Test.YtggchfdjpfodfaaKC
import Derived.Test.YtggchfdjpfodfaaKF
import Derived.Test.YtggchfdjpfodfaaGf3
set_option linter.unusedVariables false
set_option linter.unusedSimpArgs false
namespace Go.Proofs.Ytggchfdjpfodfaa.K
open Go.RowKit Go.Proofs.YtggchfdjpfodfaaW.PrintWords Go.Proofs.YtggchfdjpfodfaaW.PrintLast Go.Proofs.YtggchfdjpfodfaaW.PrintMore Go.Proofs.Ytggchfdjpfodfaa.G
open Sp OP

theorem opI : Opn Try.prog (Kd.int .i64) 3 I64 := (op_int Try.underlying3 (by kernel_rfl)).mono (fun _ h => h)
theorem opW : Opn Try.prog (Kd.int .u32) 46 W32 := (op_int Try.underlying46 (by kernel_rfl)).mono (fun _ h => h)
theorem op48 : Opn Try.prog k48 48 Wf48 :=
  ((op_struct Try.underlying48 (by kernel_rfl) (fs_cons opI rfl (fs_cons opI rfl (fs_cons opI rfl (fs_cons opI rfl (fs_cons opI rfl (fs_cons opI rfl (fs_cons opI rfl (fs_one opW rfl)))))))) ).iso _
    (fun p => (⟨p.1, p.2.1, p.2.2.1, p.2.2.2.1, p.2.2.2.2.1, p.2.2.2.2.2.1, p.2.2.2.2.2.2.1, p.2.2.2.2.2.2.2⟩ : S48)) (fun _ => rfl)).mono (fun _ h => h)
def Wf45 (b : S45) : Prop := (∀ t ∈ b.f0, Wf48 t) ∧ b.f0.length * 64 ≤ 140737488351232 ∧ I64 b.f1 ∧ I64 b.f2 ∧ I64 b.f3 ∧ I64 b.f4
theorem op45 : Opn Try.prog k45 45 Wf45 :=
  ((op_struct Try.underlying45 (by kernel_rfl) (fs_cons (op_slice Try.underlying43 (by kernel_rfl) (B := 64) (by kernel_rfl) op48) rfl (fs_cons opI rfl (fs_cons opI rfl (fs_cons opI rfl (fs_one opI rfl)))))).iso _
    (fun p => (⟨p.1, p.2.1, p.2.2.1, p.2.2.2.1, p.2.2.2.2⟩ : S45)) (fun _ => rfl)).mono (fun _ h => ⟨h.1.1, h.1.2.1, h.2⟩)
def Wf29 (f : S29) : Prop := I64 f.f0 ∧ (∀ b ∈ f.f1, Wf45 b) ∧ f.f1.length * 56 ≤ 140737488351232
theorem op29 : Opn Try.prog k29 29 Wf29 :=
  ((op_struct Try.underlying29 (by kernel_rfl) (fs_cons opI rfl (fs_one (op_slice Try.underlying27 (by kernel_rfl) (B := 56) (by kernel_rfl) op45) rfl))).iso _
    (fun p => (⟨p.1, p.2⟩ : S29)) (fun _ => rfl)).mono (fun _ h => ⟨h.1, h.2.1, h.2.2.1⟩)
def Wf24 (l : List S29) : Prop := (∀ f ∈ l, Wf29 f) ∧ l.length * 32 ≤ 140737488351232
theorem op24 : Opn Try.prog (Kd.pair (Kd.int .i64) (Kd.slice 29 k29)) 24 (fun p => I64 p.1 ∧ Wf24 p.2) :=
  (op_struct Try.underlying24 (by kernel_rfl) (fs_cons opI rfl (fs_one (op_slice Try.underlying22 (by kernel_rfl) (B := 32) (by kernel_rfl) op29) rfl))).mono (fun _ h => ⟨h.1, h.2.1, h.2.2.1⟩)

theorem wf_small {l : List S29} (h : Wf24 l) : (∀ f ∈ l, ∀ b ∈ f.f1, ∀ t ∈ b.f0, Wf48 t) ∧ (∀ f ∈ l, Lens f.f1) :=
  ⟨fun f hf b hb t ht => ((h.1 f hf).2.1 b hb).1 t ht, fun f hf b hb => by have := ((h.1 f hf).2.1 b hb).2.1; omega⟩

theorem cntB_le {b : S45} : ∀ {l : List S45}, b ∈ l → (b.f0.length : Int) ≤ cntB l := by
  intro l
  induction l with
  | nil => intro h; simp at h
  | cons x l ih =>
    intro h
    have hn : ∀ l : List S45, 0 ≤ cntB l := by
      intro l
      induction l with
      | nil => simp [cntB]
      | cons x l ih => simp only [cntB]; omega
    have := hn l
    simp only [cntB]
    rcases List.mem_cons.1 h with rfl | h
    · omega
    · have := ih h; omega
theorem cntF_le {f : S29} : ∀ {l : List S29}, f ∈ l → cntB f.f1 ≤ cntF l := by
  have hn : ∀ l : List S45, 0 ≤ cntB l := by
    intro l
    induction l with
    | nil => simp [cntB]
    | cons x l ih => simp only [cntB]; omega
  intro l
  induction l with
  | nil => intro h; simp at h
  | cons x l ih =>
    intro h
    have hq : ∀ l : List S29, 0 ≤ cntF l := by
      intro l
      induction l with
      | nil => simp [cntF]
      | cons x l ih => simp only [cntF]; have := hn x.f1; omega
    have := hq l
    have := hn x.f1
    simp only [cntF]
    rcases List.mem_cons.1 h with rfl | h
    · omega
    · have := ih h; omega
theorem rightFrom_mem {words : Int} {f : S29} : ∀ {l : List S29} {i : Nat}, rightFrom words i l = true → f ∈ l → ∃ j : Nat, oneB f.f0 f.f1 (j : Int) words = true := by
  intro l
  induction l with
  | nil => intro i _ h; simp at h
  | cons x l ih =>
    intro i h hm
    simp only [rightFrom, Bool.and_eq_true] at h
    rcases List.mem_cons.1 hm with rfl | hm
    · exact ⟨i, h.1⟩
    · exact ih h.2 hm
/-- What holds of each function of a small program. -/
structure Fine (most : Int) (f : S29) : Prop where
  lo : 0 ≤ f.f0
  hi : f.f0 ≤ 60
  ne : f.f1 ≠ []
  len : f.f1.length ≤ 40
  ins : ∀ b ∈ f.f1, (b.f0.length : Int) ≤ most
  fit : ∃ words number : Int, ∀ b ∈ f.f1, blockB number f.f0 words f.f1.length b = true
theorem small_fine {words most : Int} {l : List S29} (h : smallB words l most = true) {f : S29} (hf : f ∈ l) : Fine most f := by
  simp only [smallB, Bool.and_eq_true, decide_eq_true_eq] at h
  obtain ⟨⟨⟨⟨_, _⟩, h3⟩, h4⟩, h5⟩ := h
  have h3 := fOk_true (List.all_eq_true.1 h3 f hf)
  simp only [rightB, Bool.and_eq_true] at h5
  obtain ⟨j, hj⟩ := rightFrom_mem h5.2 hf
  simp only [oneB, Bool.and_eq_true, decide_eq_true_eq] at hj
  refine ⟨hj.1.1.1, h3.1, ?_, h3.2, fun b hb => ?_, words, j, fun b hb => List.all_eq_true.1 hj.2 b hb⟩
  · rintro e
    simp [e] at hj
  · have := cntB_le hb
    have := cntF_le hf
    omega
theorem ok_of {f : S29} {most : Int} (hw : Wf29 f) : ∀ b ∈ f.f1, ∀ t ∈ b.f0, OkI t := fun b hb t ht => by
  obtain ⟨_, h1, h2, h3, _, _, _, h7⟩ := (hw.2.1 b hb).1 t ht
  exact ⟨by simp only [Lit.wf, Bool.and_eq_true, decide_eq_true_eq]; exact h1, by simp only [Lit.wf, Bool.and_eq_true, decide_eq_true_eq]; exact h2, by simp only [Lit.wf, Bool.and_eq_true, decide_eq_true_eq]; exact h3, h7⟩
end Go.Proofs.Ytggchfdjpfodfaa.K
set_option linter.unusedVariables false
set_option linter.unusedSimpArgs false
namespace Go.Proofs.Ytggchfdjpfodfaa.K
open Go.RowKit Go.Proofs.YtggchfdjpfodfaaW.PrintWords Go.Proofs.YtggchfdjpfodfaaW.PrintLast Go.Proofs.YtggchfdjpfodfaaW.PrintMore Go.Proofs.Ytggchfdjpfodfaa.G
open Sp

theorem foldP_again (M : Int → Option Int) (t : S48) : foldP M (foldP M t).1 = foldP M t := by
  by_cases h1 : setsP t.f0 t.f1 < 0
  · have e : (foldP M t).1 = t := by unfold foldP; rw [if_pos h1]
    rw [e]
  · by_cases h2 : (valueP M t.f0 t.f2 t.f3 t.f4 t.f7).2 = true
    · have e : foldP M t = (⟨1, t.f1, 0, 0, 0, 0, 0, (valueP M t.f0 t.f2 t.f3 t.f4 t.f7).1⟩, IM.upd M t.f1 (some (valueP M t.f0 t.f2 t.f3 t.f4 t.f7).1)) := by unfold foldP; rw [if_neg h1, if_pos h2]
      have hd : ¬ t.f1 < 0 := by
        intro hh
        apply h1
        unfold setsP
        split
        · exact hh
        · omega
      rw [e]
      generalize (valueP M t.f0 t.f2 t.f3 t.f4 t.f7).1 = v
      unfold foldP
      have hs : setsP 1 t.f1 = t.f1 := by simp [setsP]
      simp only [hs]
      rw [if_neg hd]
      simp [valueP]
    · have e : (foldP M t).1 = t := by unfold foldP; rw [if_neg h1, if_neg h2]
      rw [e]
theorem foldL_twice : ∀ (l : List S48) (M : Int → Option Int), foldL M (foldL M l) = foldL M l := by
  intro l
  induction l with
  | nil => intro M; rfl
  | cons t l ih =>
    intro M
    simp only [foldL]
    rw [foldP_again, ih]
theorem foldB_twice (b : S45) : foldB (foldB b) = foldB b := by
  simp only [foldB, foldL_twice]
theorem foldBs_twice (l : List S45) : (l.map foldB).map foldB = l.map foldB := by
  rw [List.map_map]
  exact List.map_congr_left (fun b _ => foldB_twice b)

theorem ok_foldP {M : Int → Option Int} (hM : Words M) {t : S48} (h : OkI t) : OkI (foldP M t).1 := by
  unfold foldP
  split
  · exact h
  · split
    · exact ⟨h.1, rfl, rfl, value_word hM h.2.2.2⟩
    · exact h
theorem ok_foldL : ∀ (l : List S48) (M : Int → Option Int), Words M → (∀ t ∈ l, OkI t) → ∀ t ∈ foldL M l, OkI t := by
  intro l
  induction l with
  | nil => intro M _ _ t ht; simp [foldL] at ht
  | cons x l ih =>
    intro M hM hl t ht
    simp only [foldL, List.mem_cons] at ht
    rcases ht with rfl | ht
    · exact ok_foldP hM (hl x (by simp))
    · exact ih _ (words_fold hM (hl x (by simp))) (fun y hy => hl y (by simp [hy])) t ht
theorem ok_foldB {l : List S45} (h : ∀ b ∈ l, ∀ t ∈ b.f0, OkI t) : ∀ b ∈ l.map foldB, ∀ t ∈ b.f0, OkI t := by
  intro b hb t ht
  obtain ⟨x, hx, rfl⟩ := List.mem_map.1 hb
  exact ok_foldL x.f0 _ (fun i v hv => by cases hv) (h x hx) t ht
theorem len_foldB {l : List S45} {n : Nat} (h : ∀ b ∈ l, b.f0.length ≤ n) : ∀ b ∈ l.map foldB, b.f0.length ≤ n := by
  intro b hb
  obtain ⟨x, hx, rfl⟩ := List.mem_map.1 hb
  have := h x hx
  rw [show (foldB x).f0.length = x.f0.length from foldL_length _ _]
  exact this

/-- What an instruction may have become. -/
def Was (x y : S48) : Prop := y = x ∨ ((x.f0 = 2 ∨ x.f0 = 3) ∧ y.f0 = 1 ∧ y.f1 = x.f1)
theorem was_foldP (M : Int → Option Int) {t : S48} {number regs words : Int} (hf : fitsT number regs words t = true) : Was t (foldP M t).1 := by
  unfold foldP
  split
  · exact .inl rfl
  · split
    · next h =>
      obtain ⟨op, d, a, c, k, ba, sz, nn⟩ := t
      dsimp only at h ⊢
      unfold valueP at h
      split at h
      · next h1 =>
        subst h1
        simp only [fitsT, fitsB, if_true, Bool.and_eq_true, beq_iff_eq] at hf
        obtain ⟨_, ⟨⟨⟨⟨rfl, rfl⟩, rfl⟩, rfl⟩, rfl⟩⟩ := hf
        exact .inl (by simp [valueP])
      · split at h
        · next h2 => exact .inr ⟨.inl h2, rfl, rfl⟩
        · split at h
          · next h3 => exact .inr ⟨.inr h3.1, rfl, rfl⟩
          · cases h
    · exact .inl rfl
theorem was_foldL {number regs words : Int} : ∀ (l : List S48) (M : Int → Option Int), (∀ t ∈ l, fitsT number regs words t = true) → ∀ j : Nat, j < l.length → Was (rd_T48 l (j : Int)) (rd_T48 (foldL M l) (j : Int)) := by
  intro l
  induction l with
  | nil => intro M _ j h; simp at h
  | cons x l ih =>
    intro M hl j hj
    match j with
    | 0 => exact was_foldP M (hl x (by simp))
    | j + 1 =>
      have h := ih (foldP M x).2 (fun t ht => hl t (by simp [ht])) j (by simpa using hj)
      simpa [rd_T48, foldL] using h
end Go.Proofs.Ytggchfdjpfodfaa.K
set_option linter.unusedVariables false
set_option linter.unusedSimpArgs false
namespace Go.Proofs.Ytggchfdjpfodfaa.K
open Go.RowKit Go.Proofs.YtggchfdjpfodfaaW.PrintWords Go.Proofs.YtggchfdjpfodfaaW.PrintLast Go.Proofs.YtggchfdjpfodfaaW.PrintMore Go.Proofs.Ytggchfdjpfodfaa.G
open Sp

def Rel (n : Nat) (M : Int → Option Int) (kn : List Bool) (vs : List Int) : Prop :=
  kn.length = n ∧ vs.length = n ∧ ∀ i : Int, 0 ≤ i → i < n → rdOf false kn i = (M i).isSome ∧ ∀ v, M i = some v → rd vs i = v
theorem rel_start (n : Nat) : Rel n (fun _ => none) (List.replicate n false) (List.replicate n 0) := by
  refine ⟨by simp, by simp, fun i h0 h1 => ⟨?_, fun v hv => by cases hv⟩⟩
  unfold rdOf
  rw [List.getD_eq_getElem?_getD, List.getElem?_replicate, if_pos (by omega)]
  rfl
theorem rel_set {n : Nat} {M : Int → Option Int} {kn : List Bool} {vs : List Int} (h : Rel n M kn vs) {d : Int} (h0 : 0 ≤ d) (h1 : d < n) (o : Option Int) (b : Bool) (x : Int) (hb : b = o.isSome) (hx : ∀ v, o = some v → x = v) :
    Rel n (IM.upd M d o) (kn.set d.toNat b) (vs.set d.toNat x) := by
  obtain ⟨a1, a2, a3⟩ := h
  refine ⟨by simpa using a1, by simpa using a2, fun i hi0 hi1 => ?_⟩
  unfold IM.upd rdOf rd
  rw [List.getD_eq_getElem?_getD, List.getD_eq_getElem?_getD, List.getElem?_set, List.getElem?_set]
  by_cases hid : i = d
  · subst hid
    have e1 : i.toNat < kn.length := by omega
    have e2 : i.toNat < vs.length := by omega
    simp only [e1, e2, if_true, Option.getD_some]
    exact ⟨hb, fun v hv => hx v hv⟩
  · have hne : ¬ d.toNat = i.toNat := by omega
    rw [if_neg hne, if_neg hne]
    have := a3 i hi0 hi1
    unfold rdOf rd at this
    rw [List.getD_eq_getElem?_getD, List.getD_eq_getElem?_getD] at this
    simp only [hid, if_false]
    exact this
theorem foldP_neg {M : Int → Option Int} {t : S48} (h : setsP t.f0 t.f1 < 0) : foldP M t = (t, M) := by unfold foldP; rw [if_pos h]
theorem sets_is {op d : Int} (h : ¬ setsP op d < 0) : setsP op d = d := by
  unfold setsP at h ⊢
  split
  · rfl
  · next hh => rw [if_neg hh] at h; omega
theorem foldP_tail {M : Int → Option Int} {t : S48} (h : ¬ setsP t.f0 t.f1 < 0) :
    setsP (foldP M t).1.f0 (foldP M t).1.f1 = t.f1 ∧ (foldP M t).2 = IM.upd M t.f1 (if (foldP M t).1.f0 = 1 then some (foldP M t).1.f7 else none) := by
  unfold foldP
  rw [if_neg h]
  split
  · exact ⟨by simp [setsP], by simp⟩
  · next hk =>
    refine ⟨sets_is h, ?_⟩
    have : t.f0 ≠ 1 := by
      intro e
      apply hk
      simp [valueP, e]
    simp [this]
theorem foldP_same {M : Int → Option Int} {t : S48} {number regs words : Int} (hf : fitsT number regs words t = true) (h : t.f0 ≠ 2 ∧ t.f0 ≠ 3) : (foldP M t).1 = t := by
  rcases was_foldP M hf with h1 | ⟨h1, _⟩
  · exact h1
  · omega
theorem foldP_copy {M : Int → Option Int} {t : S48} (h : t.f0 = 2) (hd : 0 ≤ t.f1) : (foldP M t).1 = match M t.f2 with | some v => ⟨1, t.f1, 0, 0, 0, 0, 0, v⟩ | none => t := by
  unfold foldP
  rw [if_neg (by simp [setsP, h]; omega)]
  cases e : M t.f2 with
  | none => rw [if_neg (by simp [valueP, h, e])]
  | some v => rw [if_pos (by simp [valueP, h, e])]; simp [valueP, h, e]
theorem foldP_bin {M : Int → Option Int} {t : S48} (h : t.f0 = 3) (hd : 0 ≤ t.f1) : (foldP M t).1 = match M t.f2, M t.f3 with | some v, some u => (if (app t.f4 v u).2 = 0 then ⟨1, t.f1, 0, 0, 0, 0, 0, (app t.f4 v u).1⟩ else t) | _, _ => t := by
  unfold foldP
  rw [if_neg (by simp [setsP, h]; omega)]
  cases e : M t.f2 with
  | none => rw [if_neg (by simp [valueP, h, e])]
  | some v =>
    cases e' : M t.f3 with
    | none => rw [if_neg (by simp [valueP, h, e, e'])]
    | some u =>
      dsimp only
      by_cases hz : (app t.f4 v u).2 = 0
      · rw [if_pos hz, if_pos (by simp [valueP, h, e, e', hz])]; simp [valueP, h, e, e']
      · rw [if_neg hz, if_neg (by simp [valueP, h, e, e', hz])]
/-- Where it sets, it sets a register. -/
theorem fits_sets {t : S48} {number regs words : Int} (hf : fitsT number regs words t = true) (h : ¬ setsP t.f0 t.f1 < 0) : 0 ≤ t.f1 ∧ t.f1 < regs := by
  have hs := sets_is h
  have h0 : 0 ≤ t.f1 := by omega
  refine ⟨h0, ?_⟩
  have hop : t.f0 = 1 ∨ t.f0 = 2 ∨ t.f0 = 3 ∨ t.f0 = 4 ∨ t.f0 = 6 ∨ t.f0 = 8 := by
    unfold setsP at h
    split at h
    · assumption
    · omega
  have hw : wB t.f1 regs = true := by
    rcases hop with e | e | e | e | e | e <;> simp [fitsT, fitsB, e] at hf <;> simp [hf]
  unfold wB at hw
  simp at hw
  omega
theorem fits_a {t : S48} {number regs words : Int} (hf : fitsT number regs words t = true) (h : t.f0 = 2 ∨ t.f0 = 3) : 0 ≤ t.f2 ∧ t.f2 < regs := by
  have hw : wB t.f2 regs = true := by
    rcases h with e | e <;> simp [fitsT, fitsB, e] at hf <;> simp [hf]
  unfold wB at hw
  simp at hw
  omega
theorem fits_c {t : S48} {number regs words : Int} (hf : fitsT number regs words t = true) (h : t.f0 = 3) : 0 ≤ t.f3 ∧ t.f3 < regs := by
  have hw : wB t.f3 regs = true := by
    simp [fitsT, fitsB, h] at hf
    simp [hf]
  unfold wB at hw
  simp at hw
  omega
end Go.Proofs.Ytggchfdjpfodfaa.K
set_option linter.unusedVariables false
set_option linter.unusedSimpArgs false
namespace Go.Proofs.Ytggchfdjpfodfaa.K
open Go.RowKit Go.Proofs.YtggchfdjpfodfaaW.PrintWords Go.Proofs.YtggchfdjpfodfaaW.PrintLast Go.Proofs.YtggchfdjpfodfaaW.PrintMore Go.Proofs.Ytggchfdjpfodfaa.G
open Sp

theorem sets_f (x0 x1 x2 x3 x4 x5 x6 x7 : Int) : seedcornref24_Sets.f x0 x1 x2 x3 x4 x5 x6 x7 = some (setsP x0 x1) := by
  unfold seedcornref24_Sets.f setsP
  by_cases h1 : x0 = 1; · simp [h1]
  by_cases h2 : x0 = 2; · simp [h2]
  by_cases h3 : x0 = 3; · simp [h3]
  by_cases h4 : x0 = 4; · simp [h4]
  by_cases h6 : x0 = 6; · simp [h6]
  by_cases h8 : x0 = 8; · simp [h8]
  simp [h1, h2, h3, h4, h6, h8]

def tailO (k : Nat) (l : List S48) (kn : List Bool) (vs : List Int) (out : List S48) (i : Int) (x : S48) : Option (List S48) :=
  (seedcornref24_Sets.f x.f0 x.f1 x.f2 x.f3 x.f4 x.f5 x.f6 x.f7).bind fun t183 => (if t183 ≥ 0 then (if 0 ≤ t183 then (if t183 < (kn.length : Int) then (if t183 < (vs.length : Int) then (if out.length < 2199023255552 then (seedcornref30_Ins.l0 k l (kn.set (t183 : Int).toNat (x.f0 == 1)) (vs.set (t183 : Int).toNat x.f7) (out ++ [x]) (wrap64 (i + 1))) else (none)) else (none)) else (none)) else (none)) else (if out.length < 2199023255552 then (seedcornref30_Ins.l0 k l kn vs (out ++ [x]) (wrap64 (i + 1))) else (none)))
theorem tail_some {k n : Nat} {l : List S48} {kn : List Bool} {vs : List Int} {out : List S48} {i : Nat} {M : Int → Option Int} {t : S48} {number regs words : Int} {R : List S48} (hn : n = regs.toNat) (hR : Rel n M kn vs) (hf : fitsT number regs words t = true) (ho : out.length ≤ 100000) (hi : i ≤ 100000)
    (ih : ∀ kn' vs', Rel n (foldP M t).2 kn' vs' → seedcornref30_Ins.l0 k l kn' vs' (out ++ [(foldP M t).1]) ((i + 1 : Nat) : Int) = some R) : tailO k l kn vs out i (foldP M t).1 = some R := by
  have hw : wrap64 ((i : Int) + 1) = ((i + 1 : Nat) : Int) := by unfold wrap64; omega
  unfold tailO
  rw [sets_f, Option.bind_some, hw]
  by_cases hs : setsP t.f0 t.f1 < 0
  · have e1 := foldP_neg (M := M) hs
    rw [e1] at ih ⊢
    rw [if_neg (by dsimp only; omega), if_pos (by omega)]
    exact ih _ _ hR
  · obtain ⟨e1, e2⟩ := foldP_tail (M := M) hs
    obtain ⟨d0, d1⟩ := fits_sets hf hs
    have hl1 := hR.1
    have hl2 := hR.2.1
    rw [e1, if_pos (by omega), if_pos d0, if_pos (by omega), if_pos (by omega), if_pos (by omega)]
    refine ih _ _ ?_
    rw [e2]
    refine rel_set hR d0 (by omega) _ _ _ ?_ ?_
    · by_cases h : (foldP M t).1.f0 = 1 <;> simp [h]
    · intro v hv
      by_cases h : (foldP M t).1.f0 = 1
      · rw [if_pos h] at hv; exact Option.some.inj hv
      · rw [if_neg h] at hv; cases hv

theorem ins_l0 {l : List S48} {number regs words : Int} (hl : l.length ≤ 100000) (h0 : 0 ≤ regs) (hfit : ∀ t ∈ l, fitsT number regs words t = true) (hok : ∀ t ∈ l, OkI t) :
    ∀ (d k i : Nat) (kn : List Bool) (vs : List Int), i + d = l.length → 4 * d + 1 ≤ k → Rel regs.toNat (stM (fun _ => none) (l.take i)) kn vs →
      seedcornref30_Ins.l0 k l kn vs (foldL (fun _ => none) (l.take i)) (i : Int) = some (foldL (fun _ => none) l) := by
  intro d
  induction d with
  | zero =>
    intro k i kn vs hd hk hR
    obtain ⟨m, rfl⟩ : ∃ m, k = m + 1 := ⟨k - 1, by omega⟩
    rw [seedcornref30_Ins.l0, if_neg (by omega), List.take_of_length_le (by omega)]
  | succ d ih =>
    intro k i kn vs hd hk hR
    obtain ⟨m, rfl⟩ : ∃ m, k = m + 1 + 1 + 1 + 1 := ⟨k - 4, by omega⟩
    have hlt : i < l.length := by omega
    have hmem : rd_T48 l (i : Int) ∈ l := rd_mem' hlt
    have htk := take_rd hlt
    have hf := hfit _ hmem
    have hot := hok _ hmem
    have hM : Words (stM (fun _ => none) (l.take i)) := words_stM _ (fun t ht => hok t (List.mem_of_mem_take ht))
    have ih' := fun kn' vs' hR' => ih m (i + 1) kn' vs' (by omega) (by omega) hR'
    rw [htk, foldL_snoc, stM_snoc] at ih'
    have hol : (foldL (fun _ => none) (l.take i)).length ≤ 100000 := by rw [foldL_length, List.length_take]; omega
    generalize foldL (fun _ => none) (l.take i) = out at *
    generalize stM (fun _ => none) (l.take i) = M at *
    generalize hR0 : foldL (fun _ => none) l = R at *
    rw [seedcornref30_Ins.l0, if_pos (by omega), if_pos (by omega)]
    generalize rd_T48 l (i : Int) = t at *
    have T := tail_some (k := m) (l := l) (i := i) (R := R) rfl hR hf hol (by omega) ih'
    have hl1 := hR.1
    have hl2 := hR.2.1
    by_cases h2 : t.f0 = 2
    · obtain ⟨a0, a1⟩ := fits_a hf (.inl h2)
      have hdd := fits_sets hf (by simp [setsP, h2]; have := hf; simp [fitsT, fitsB, h2, wB] at this; omega)
      rw [foldP_copy h2 hdd.1] at T
      obtain ⟨r1, r2⟩ := hR.2.2 t.f2 a0 (by omega)
      rw [if_pos h2, if_pos a0, if_pos (by omega), r1]
      cases hMa : M t.f2 with
      | none =>
        rw [hMa] at T
        rw [seedcornref30_Ins.j1, if_neg (by simp), seedcornref30_Ins.j2, if_neg (by omega), seedcornref30_Ins.j3, if_neg (by simp)]
        exact T
      | some v =>
        rw [hMa] at T
        rw [seedcornref30_Ins.j1, if_pos (by simp), if_pos a0, if_pos (by omega), r2 v hMa, seedcornref30_Ins.j2, if_neg (by omega), seedcornref30_Ins.j3, if_neg (by simp)]
        exact T
    · rw [if_neg h2, seedcornref30_Ins.j1, if_neg (by simp), seedcornref30_Ins.j2]
      by_cases h3 : t.f0 = 3
      · obtain ⟨a0, a1⟩ := fits_a hf (.inr h3)
        obtain ⟨c0, c1⟩ := fits_c hf h3
        have hdd := fits_sets hf (by simp [setsP, h3]; have := hf; simp [fitsT, fitsB, h3, wB] at this; omega)
        rw [foldP_bin h3 hdd.1] at T
        obtain ⟨r1, r2⟩ := hR.2.2 t.f2 a0 (by omega)
        obtain ⟨q1, q2⟩ := hR.2.2 t.f3 c0 (by omega)
        rw [if_pos h3, if_pos a0, if_pos (by omega), r1]
        cases hMa : M t.f2 with
        | none =>
          rw [hMa] at T
          rw [if_neg (by simp), seedcornref30_Ins.j3, if_neg (by simp)]
          exact T
        | some v =>
          rw [hMa] at T
          rw [if_pos (by simp), if_pos c0, if_pos (by omega), q1]
          cases hMc : M t.f3 with
          | none =>
            rw [hMc] at T
            rw [seedcornref30_Ins.j3, if_neg (by simp)]
            exact T
          | some u =>
            rw [hMc] at T
            rw [seedcornref30_Ins.j3, if_pos (by simp), if_pos a0, if_pos (by omega), if_pos c0, if_pos (by omega), r2 v hMa, q2 u hMc, seedcornref01_Apply.ok ⟨hM _ _ hMa, hM _ _ hMc⟩, Option.bind_some]
            dsimp only at T
            by_cases hz : (app t.f4 v u).2 = 0
            · rw [if_pos hz] at T
              rw [if_pos hz]
              exact T
            · rw [if_neg hz] at T
              rw [if_neg hz]
              exact T
      · rw [foldP_same hf ⟨h2, h3⟩] at T
        rw [if_neg h3, seedcornref30_Ins.j3, if_neg (by simp)]
        exact T
theorem ins_f {l : List S48} {number regs words : Int} (hl : l.length ≤ 100000) (h0 : 0 ≤ regs) (h1 : regs ≤ 100000) (hfit : ∀ t ∈ l, fitsT number regs words t = true) (hok : ∀ t ∈ l, OkI t) {k : Nat} (hk : 400001 ≤ k) :
    seedcornref30_Ins.f k l regs = some (foldL (fun _ => none) l) := by
  unfold seedcornref30_Ins.f
  rw [if_pos h0, if_pos (by omega), if_pos (by omega)]
  exact ins_l0 hl h0 hfit hok l.length k 0 _ _ (by omega) (by omega) (by simpa [stM] using rel_start regs.toNat)

theorem all_l1 {regs : Int} {l : List S45} (h0 : 0 ≤ regs) (h1 : regs ≤ 100000) (out : List (List Bool)) (ho : out.length ≤ 100000) (x4 : Int) :
    ∀ (d k j : Nat), j + d = regs.toNat → d + 1 ≤ k → seedcornref30_All.l1 k x4 (List.replicate j true ++ List.replicate d false) (j : Int) regs l out = seedcornref30_All.l0 (k - (d + 1)) (wrap64 (x4 + 1)) regs l (out ++ [List.replicate regs.toNat true]) := by
  intro d
  induction d with
  | zero =>
    intro k j hd hk
    obtain ⟨m, rfl⟩ : ∃ m, k = m + 1 := ⟨k - 1, by omega⟩
    rw [seedcornref30_All.l1, if_neg (by omega), if_pos (by omega)]
    obtain rfl : j = regs.toNat := by omega
    simp
  | succ d ih =>
    intro k j hd hk
    obtain ⟨m, rfl⟩ : ∃ m, k = m + 1 := ⟨k - 1, by omega⟩
    have hw : wrap64 ((j : Int) + 1) = ((j + 1 : Nat) : Int) := by unfold wrap64; omega
    rw [seedcornref30_All.l1, if_pos (by omega), if_pos (by omega), if_pos (by simp; omega), hw]
    have hs := set_rep (n := regs.toNat) (q := j) (by omega)
    rw [show regs.toNat - j = d + 1 by omega, show regs.toNat - (j + 1) = d by omega] at hs
    rw [Int.toNat_natCast, hs, ih m (j + 1) (by omega) (by omega)]
    congr 1
    omega
theorem all_l0 {regs : Int} {l : List S45} (h0 : 0 ≤ regs) (h1 : regs ≤ 100000) (hl : l.length ≤ 100000) :
    ∀ (d k i : Nat), i + d = l.length → d * (regs.toNat + 2) + 1 ≤ k → seedcornref30_All.l0 k (i : Int) regs l (List.replicate i (List.replicate regs.toNat true)) = some (List.replicate l.length (List.replicate regs.toNat true)) := by
  intro d
  induction d with
  | zero =>
    intro k i hd hk
    obtain ⟨m, rfl⟩ : ∃ m, k = m + 1 := ⟨k - 1, by omega⟩
    rw [seedcornref30_All.l0, if_neg (by omega)]
    congr 2
  | succ d ih =>
    intro k i hd hk
    have hm : (d + 1) * (regs.toNat + 2) = d * (regs.toNat + 2) + (regs.toNat + 2) := Nat.succ_mul _ _
    obtain ⟨m, rfl⟩ : ∃ m, k = m + 1 := ⟨k - 1, by omega⟩
    have hw : wrap64 ((i : Int) + 1) = ((i + 1 : Nat) : Int) := by unfold wrap64; omega
    rw [seedcornref30_All.l0, if_pos (by omega), if_pos h0, if_pos (by omega)]
    have h := all_l1 (l := l) h0 h1 (List.replicate i (List.replicate regs.toNat true)) (by simp; omega) (i : Int) regs.toNat m 0 (by omega) (by omega)
    simp only [List.replicate_zero, List.nil_append] at h
    rw [show ((0 : Nat) : Int) = 0 from rfl] at h
    rw [h, hw, ← List.replicate_succ']
    exact ih _ (i + 1) (by omega) (by omega)
theorem all_f {regs : Int} {l : List S45} (h0 : 0 ≤ regs) (h1 : regs ≤ 60) (hl : l.length ≤ 40) {k : Nat} (hk : 10000 ≤ k) : seedcornref30_All.f k regs l = some (l.map fun _ => List.replicate regs.toNat true) := by
  unfold seedcornref30_All.f
  have hm : l.length * (regs.toNat + 2) ≤ 40 * 62 := Nat.mul_le_mul hl (by omega)
  have h := all_l0 (l := l) h0 (by omega) (by omega) l.length k 0 (by omega) (by omega)
  rw [show ((0 : Nat) : Int) = 0 from rfl, List.replicate_zero] at h
  rw [h, List.map_const']

theorem of_l0 {l : List S45} {number regs words : Int} (hl : l.length ≤ 40) (h0 : 0 ≤ regs) (h1 : regs ≤ 60) (hlen : ∀ b ∈ l, b.f0.length ≤ 100000) (hfit : ∀ b ∈ l, ∀ t ∈ b.f0, fitsT number regs words t = true) (hok : ∀ b ∈ l, ∀ t ∈ b.f0, OkI t) :
    ∀ (d k i : Nat), i + d = l.length → d + 400001 ≤ k → seedcornref30_Of.l0 k (i : Int) regs l regs ((l.take i).map foldB) = some (regs, l.map foldB, l.map fun _ => List.replicate regs.toNat true) := by
  intro d
  induction d with
  | zero =>
    intro k i hd hk
    obtain ⟨m, rfl⟩ : ∃ m, k = m + 1 := ⟨k - 1, by omega⟩
    rw [seedcornref30_Of.l0, if_neg (by omega), all_f h0 h1 hl (by omega), Option.bind_some, List.take_of_length_le (by omega)]
  | succ d ih =>
    intro k i hd hk
    obtain ⟨m, rfl⟩ : ∃ m, k = m + 1 := ⟨k - 1, by omega⟩
    have hw : wrap64 ((i : Int) + 1) = ((i + 1 : Nat) : Int) := by unfold wrap64; omega
    have hlt : i < l.length := by omega
    have hmem : rd_T45 l (i : Int) ∈ l := rd_mem hlt
    rw [seedcornref30_Of.l0, if_pos (by omega), if_pos (by omega), ins_f (hlen _ hmem) h0 (by omega) (hfit _ hmem) (hok _ hmem) (by omega), Option.bind_some, if_pos (by simp; omega), hw]
    have h := ih m (i + 1) (by omega) (by omega)
    rw [take_rd5 hlt, List.map_append] at h
    exact h
theorem refof_f {l : List S45} {number regs words : Int} (hl : l.length ≤ 40) (h0 : 0 ≤ regs) (h1 : regs ≤ 60) (hlen : ∀ b ∈ l, b.f0.length ≤ 100000) (hfit : ∀ b ∈ l, ∀ t ∈ b.f0, fitsT number regs words t = true) (hok : ∀ b ∈ l, ∀ t ∈ b.f0, OkI t) {k : Nat} (hk : 500000 ≤ k) :
    seedcornref30_Of.f k regs l = some (regs, l.map foldB, l.map fun _ => List.replicate regs.toNat true) := by
  unfold seedcornref30_Of.f
  exact of_l0 hl h0 h1 hlen hfit hok l.length k 0 (by omega) (by omega)

theorem foldOf_pure (words i : Int) (l : List S29) (hz : Wf24 l) (hi : 0 ≤ i ∧ i ≤ 255) : seedcornlaw30_FoldOf.f 500001 words l i = some true := by
  obtain ⟨z1, z2⟩ := wf_small hz
  unfold seedcornlaw30_FoldOf.f seedcornlaw30_awake.f
  rw [Option.bind_some, if_pos rfl, seedcornref30_Small.ok ⟨z1, z2⟩, Option.bind_some]
  have hw : wrap64 i = i := by unfold wrap64; omega
  by_cases hs : smallB words l 150 = true
  · rw [if_pos hs, hw, seedcornlaw30_FoldOf.j0]
    by_cases hlt : i < l.length
    · rw [if_neg (by simp; omega), if_pos hi.1, if_pos hlt]
      obtain ⟨j, rfl⟩ : ∃ j : Nat, i = j := ⟨i.toNat, by omega⟩
      have hmem : rd_T29 l (j : Int) ∈ l := rd_mem2 (by omega)
      have F := small_fine hs hmem
      generalize rd_T29 l (j : Int) = f at *
      have hwf := hz.1 f hmem
      have hlen : ∀ b ∈ f.f1, b.f0.length ≤ 100000 := fun b hb => by have := F.ins b hb; omega
      obtain ⟨ws, nu, hb⟩ := F.fit
      have hfit : ∀ b ∈ f.f1, ∀ t ∈ b.f0, fitsT nu f.f0 ws t = true := fun b hb' t ht => by
        have h := hb b hb'
        simp only [blockB, Bool.and_eq_true] at h
        exact List.all_eq_true.1 h.2 t ht
      rw [fold_Of.ok ⟨F.lo, by have := F.hi; omega, by have := F.len; omega, hlen, ok_of (most := 150) hwf⟩, Option.bind_some, refof_f F.len F.lo F.hi hlen hfit (ok_of (most := 150) hwf) (by omega), Option.bind_some]
      dsimp only
      rw [seedcornref30_SameFunc.ok, Option.bind_some, if_pos rfl, seedcornref30_SameCert.ok]
      rfl
    · rw [if_pos (by simp; omega)]
  · rw [if_neg hs, seedcornlaw30_FoldOf.j0, if_pos rfl]
end Go.Proofs.Ytggchfdjpfodfaa.K
