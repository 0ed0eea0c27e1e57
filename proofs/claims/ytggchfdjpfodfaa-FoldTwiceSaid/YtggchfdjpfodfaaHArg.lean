/- A program in blocks as an argument: what a value of the type reads as. No condition. -/
import Derived.Test.YtggchfdjpfodfaaOP
import Derived.Test.YtggchfdjpfodfaaHSmall
import Derived.Test.YtggchfdjpfodfaaHOf
set_option linter.unusedVariables false
set_option linter.unusedSimpArgs false
namespace Go.Proofs.Ytggchfdjpfodfaa.H
open Go.RowKit Go.Proofs.YtggchfdjpfodfaaW.PrintWords Go.Proofs.YtggchfdjpfodfaaW.PrintLast Go.Proofs.YtggchfdjpfodfaaW.PrintMore Go.Proofs.Ytggchfdjpfodfaa.PFoldOf
open Sp OP

theorem opI : Opn Try.prog (Kd.int .i64) 3 I64 := (op_int Try.underlying3 (by kernel_rfl)).mono (fun _ h => h)
theorem opW : Opn Try.prog (Kd.int .u32) 46 W32 := (op_int Try.underlying46 (by kernel_rfl)).mono (fun _ h => h)
theorem op48 : Opn Try.prog k48 48 Wf48 :=
  ((op_struct Try.underlying48 (by kernel_rfl) (fs_cons opI rfl (fs_cons opI rfl (fs_cons opI rfl (fs_cons opI rfl (fs_cons opI rfl (fs_cons opI rfl (fs_cons opI rfl (fs_one opW rfl)))))))) ).iso _
    (fun p => (⟨p.1, p.2.1, p.2.2.1, p.2.2.2.1, p.2.2.2.2.1, p.2.2.2.2.2.1, p.2.2.2.2.2.2.1, p.2.2.2.2.2.2.2⟩ : S48)) (fun _ => rfl)).mono (fun _ h => h)
def Wf45 (b : S45) : Prop := (∀ t ∈ b.f0, Wf48 t) ∧ b.f0.length * 64 ≤ 140737488351232 ∧ I64 b.f1 ∧ I64 b.f2 ∧ I64 b.f3 ∧ I64 b.f4
theorem op45 : Opn Try.prog k45 45 Wf45 :=
  ((op_struct Try.underlying45 (by kernel_rfl) (fs_cons (op_slice Try.underlying43 (by kernel_rfl) (B := 64) (by kernel_rfl) op48) rfl (fs_cons opI rfl (fs_cons opI rfl (fs_cons opI rfl (fs_one opI rfl)))))).iso _
    (fun p => (⟨p.1, p.2.1, p.2.2.1, p.2.2.2.1, p.2.2.2.2⟩ : S45)) (fun _ => rfl)).mono (fun _ h => ⟨h.1.1, h.1.2.1, h.2⟩)
def Wf29 (f : S29) : Prop := I64 f.f0 ∧ (∀ b ∈ f.f1, Wf45 b) ∧ f.f1.length * 56 ≤ 140737488351232
theorem op29 : Opn Try.prog k29 29 Wf29 :=
  ((op_struct Try.underlying29 (by kernel_rfl) (fs_cons opI rfl (fs_one (op_slice Try.underlying27 (by kernel_rfl) (B := 56) (by kernel_rfl) op45) rfl))).iso _
    (fun p => (⟨p.1, p.2⟩ : S29)) (fun _ => rfl)).mono (fun _ h => ⟨h.1, h.2.1, h.2.2.1⟩)
def Wf24 (l : List S29) : Prop := (∀ f ∈ l, Wf29 f) ∧ l.length * 32 ≤ 140737488351232
theorem op24 : Opn Try.prog (Kd.pair (Kd.int .i64) (Kd.slice 29 k29)) 24 (fun p => I64 p.1 ∧ Wf24 p.2) :=
  (op_struct Try.underlying24 (by kernel_rfl) (fs_cons opI rfl (fs_one (op_slice Try.underlying22 (by kernel_rfl) (B := 32) (by kernel_rfl) op29) rfl))).mono (fun _ h => ⟨h.1, h.2.1, h.2.2.1⟩)

theorem wf_small {l : List S29} (h : Wf24 l) : (∀ f ∈ l, ∀ b ∈ f.f1, ∀ t ∈ b.f0, Wf48 t) ∧ (∀ f ∈ l, Lens f.f1) :=
  ⟨fun f hf b hb t ht => ((h.1 f hf).2.1 b hb).1 t ht, fun f hf b hb => by have := ((h.1 f hf).2.1 b hb).2.1; omega⟩

theorem cntB_le {b : S45} : ∀ {l : List S45}, b ∈ l → (b.f0.length : Int) ≤ cntB l := by
  intro l
  induction l with
  | nil => intro h; simp at h
  | cons x l ih =>
    intro h
    have hn : ∀ l : List S45, 0 ≤ cntB l := by
      intro l
      induction l with
      | nil => simp [cntB]
      | cons x l ih => simp only [cntB]; omega
    have := hn l
    simp only [cntB]
    rcases List.mem_cons.1 h with rfl | h
    · omega
    · have := ih h; omega
theorem cntF_le {f : S29} : ∀ {l : List S29}, f ∈ l → cntB f.f1 ≤ cntF l := by
  have hn : ∀ l : List S45, 0 ≤ cntB l := by
    intro l
    induction l with
    | nil => simp [cntB]
    | cons x l ih => simp only [cntB]; omega
  intro l
  induction l with
  | nil => intro h; simp at h
  | cons x l ih =>
    intro h
    have hq : ∀ l : List S29, 0 ≤ cntF l := by
      intro l
      induction l with
      | nil => simp [cntF]
      | cons x l ih => simp only [cntF]; have := hn x.f1; omega
    have := hq l
    have := hn x.f1
    simp only [cntF]
    rcases List.mem_cons.1 h with rfl | h
    · omega
    · have := ih h; omega
theorem rightFrom_mem {words : Int} {f : S29} : ∀ {l : List S29} {i : Nat}, rightFrom words i l = true → f ∈ l → ∃ j : Nat, oneB f.f0 f.f1 (j : Int) words = true := by
  intro l
  induction l with
  | nil => intro i _ h; simp at h
  | cons x l ih =>
    intro i h hm
    simp only [rightFrom, Bool.and_eq_true] at h
    rcases List.mem_cons.1 hm with rfl | hm
    · exact ⟨i, h.1⟩
    · exact ih h.2 hm
/-- What holds of each function of a small program. -/
structure Fine (most : Int) (f : S29) : Prop where
  lo : 0 ≤ f.f0
  hi : f.f0 ≤ 60
  ne : f.f1 ≠ []
  len : f.f1.length ≤ 40
  ins : ∀ b ∈ f.f1, (b.f0.length : Int) ≤ most
  fit : ∃ words number : Int, ∀ b ∈ f.f1, blockB number f.f0 words f.f1.length b = true
theorem small_fine {words most : Int} {l : List S29} (h : smallB words l most = true) {f : S29} (hf : f ∈ l) : Fine most f := by
  simp only [smallB, Bool.and_eq_true, decide_eq_true_eq] at h
  obtain ⟨⟨⟨⟨_, _⟩, h3⟩, h4⟩, h5⟩ := h
  have h3 := fOk_true (List.all_eq_true.1 h3 f hf)
  simp only [rightB, Bool.and_eq_true] at h5
  obtain ⟨j, hj⟩ := rightFrom_mem h5.2 hf
  simp only [oneB, Bool.and_eq_true, decide_eq_true_eq] at hj
  refine ⟨hj.1.1.1, h3.1, ?_, h3.2, fun b hb => ?_, words, j, fun b hb => List.all_eq_true.1 hj.2 b hb⟩
  · rintro e
    simp [e] at hj
  · have := cntB_le hb
    have := cntF_le hf
    omega
theorem ok_of {f : S29} {most : Int} (hw : Wf29 f) : ∀ b ∈ f.f1, ∀ t ∈ b.f0, OkI t := fun b hb t ht => by
  obtain ⟨_, h1, h2, h3, _, _, _, h7⟩ := (hw.2.1 b hb).1 t ht
  exact ⟨by simp only [Lit.wf, Bool.and_eq_true, decide_eq_true_eq]; exact h1, by simp only [Lit.wf, Bool.and_eq_true, decide_eq_true_eq]; exact h2, by simp only [Lit.wf, Bool.and_eq_true, decide_eq_true_eq]; exact h3, h7⟩
end Go.Proofs.Ytggchfdjpfodfaa.H
