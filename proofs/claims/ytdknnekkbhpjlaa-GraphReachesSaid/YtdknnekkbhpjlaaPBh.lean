/- What Behind answers: all that one needs, in order; and the laws of the search. Plain lists. -/
import Derived.Test.YtdknnekkbhpjlaaIB
import Derived.Test.YtdknnekkbhpjlaaPLv
set_option linter.unusedVariables false
set_option linter.unusedSimpArgs false
namespace Go.Proofs.Ytdknnekkbhpjlaa.H
open Go.RowKit Go.Proofs.YtdknnekkbhpjlaaW.PrintWords Go.Proofs.YtdknnekkbhpjlaaW.PrintLast Go.Proofs.YtdknnekkbhpjlaaW.PrintMore Go.Proofs.Ytdknnekkbhpjlaa.G

/-- i needs x, itself or through others. -/
inductive Reach (needs : List (List Int)) (i : Int) : Int → Prop
  | one {x : Int} : x ∈ nd needs i.toNat → Reach needs i x
  | more {y x : Int} : Reach needs i y → x ∈ nd needs y.toNat → Reach needs i x
open Classical in
noncomputable def reachB (needs : List (List Int)) (i k : Int) : Bool := decide (Reach needs i k)
theorem reachB_iff {needs : List (List Int)} {i k : Int} : reachB needs i k = true ↔ Reach needs i k := by unfold reachB; simp
noncomputable def behL (needs : List (List Int)) (i : Int) : List Int := ((List.range needs.length).map fun (k : Nat) => (k : Int)).filter (fun k => reachB needs i k && !decide (k = i))
noncomputable def behindP (needs : List (List Int)) (i : Int) : List Int × Int :=
  if rightB needs = true ∧ 0 ≤ i ∧ i < needs.length then (behL needs i, 0) else ([], 1)

def cB (S : Int → Bool) : Nat → Nat
  | 0 => 0
  | n + 1 => cB S n + if S (n : Int) = true then 1 else 0
theorem cB_le (S : Int → Bool) : ∀ n, cB S n ≤ n
  | 0 => Nat.le_refl _
  | n + 1 => by have := cB_le S n; simp only [cB]; split <;> omega
theorem cB_none (n : Nat) : cB (fun _ => false) n = 0 := by
  induction n with
  | zero => rfl
  | succ n ih => simp [cB, ih]
theorem cB_add {S : Int → Bool} {j : Int} (h0 : 0 ≤ j) (hS : S j = false) : ∀ n : Nat, cB (IB.add S j) n = cB S n + if j < n then 1 else 0
  | 0 => by simp [cB]; omega
  | n + 1 => by
    have ih := cB_add h0 hS n
    simp only [cB, ih]
    have hadd : IB.add S j (n : Int) = (decide ((n : Int) = j) || S (n : Int)) := rfl
    by_cases e : (n : Int) = j
    · have h1 : IB.add S j (n : Int) = true := by rw [hadd, decide_eq_true e]; rfl
      have h2 : S (n : Int) = false := by rw [e]; exact hS
      have h3 : (if S (n : Int) = true then 1 else 0) = 0 := if_neg (by rw [h2]; decide)
      have h4 : (if j < (n : Int) then 1 else 0) = 0 := if_neg (by omega)
      have h5 : (if j < ((n + 1 : Nat) : Int) then 1 else 0) = 1 := if_pos (by omega)
      rw [if_pos h1, h3, h4, h5]
    · have h1 : IB.add S j (n : Int) = S (n : Int) := by rw [hadd, decide_eq_false e]; rfl
      rw [h1]
      by_cases h : j < (n : Int)
      · have h4 : (if j < (n : Int) then 1 else 0) = 1 := if_pos h
        have h5 : (if j < ((n + 1 : Nat) : Int) then 1 else 0) = 1 := if_pos (by omega)
        rw [h4, h5]; omega
      · have h4 : (if j < (n : Int) then 1 else 0) = 0 := if_neg h
        have h5 : (if j < ((n + 1 : Nat) : Int) then 1 else 0) = 0 := if_neg (by omega)
        rw [h4, h5]; omega

structure Inv (needs : List (List Int)) (i : Int) (td : List Int) (S : Int → Bool) : Prop where
  rng : ∀ x, S x = true → 0 ≤ x ∧ x < needs.length
  sound : ∀ x, S x = true → Reach needs i x
  todo : ∀ x ∈ td, x = i ∨ S x = true
  closed : ∀ x, (x = i ∨ S x = true) → x ∈ td ∨ ∀ y ∈ nd needs x.toNat, S y = true
structure Mid (needs : List (List Int)) (i k : Int) (j : Nat) (td : List Int) (S : Int → Bool) : Prop where
  rng : ∀ x, S x = true → 0 ≤ x ∧ x < needs.length
  sound : ∀ x, S x = true → Reach needs i x
  todo : ∀ x ∈ td, x = i ∨ S x = true
  src : k = i ∨ S k = true
  closed : ∀ x, (x = i ∨ S x = true) → x ∈ td ∨ x = k ∨ ∀ y ∈ nd needs x.toNat, S y = true
  now : ∀ y ∈ (nd needs k.toNat).take j, S y = true
theorem Inv.start (needs : List (List Int)) (i : Int) : Inv needs i [i] (fun _ => false) := by
  constructor
  · intro x h; cases h
  · intro x h; cases h
  · intro x h; exact .inl (by simpa using h)
  · intro x h
    rcases h with h | h
    · exact .inl (by simp [h])
    · cases h
theorem Inv.pop {needs : List (List Int)} {i : Int} {td : List Int} {S : Int → Bool} (h : Inv needs i td S) {m : Nat} (hm : td.length = m + 1) : Mid needs i (rd td (m : Int)) 0 (td.take m) S := by
  have e : td = td.take m ++ [rd td (m : Int)] := by
    have h1 : td.take (m + 1) = td := List.take_of_length_le (by omega)
    have hlt : m < td.length := by omega
    rw [List.take_add_one, List.getElem?_eq_getElem hlt] at h1
    have h2 : rd td (m : Int) = td[m] := by simp [rd, hlt]
    rw [h2]
    exact h1.symm
  refine ⟨h.rng, h.sound, fun x hx => h.todo x (List.mem_of_mem_take hx), h.todo _ (rd_mem (by omega)), fun x hx => ?_, fun y hy => by simp at hy⟩
  rcases h.closed x hx with h1 | h1
  · rw [e] at h1
    rcases List.mem_append.1 h1 with h1 | h1
    · exact .inl h1
    · exact .inr (.inl (by simpa using h1))
  · exact .inr (.inr h1)
theorem Mid.skip {needs : List (List Int)} {i k : Int} {j : Nat} {td : List Int} {S : Int → Bool} (h : Mid needs i k j td S) (hj : j < (nd needs k.toNat).length) (hS : S (rd (nd needs k.toNat) (j : Int)) = true) : Mid needs i k (j + 1) td S :=
  ⟨h.rng, h.sound, h.todo, h.src, h.closed, fun y hy => by
    rw [List.take_add_one, List.getElem?_eq_getElem hj] at hy
    rcases List.mem_append.1 hy with hy | hy
    · exact h.now y hy
    · have e : rd (nd needs k.toNat) (j : Int) = (nd needs k.toNat)[j] := by simp [rd, hj]
      rw [e] at hS
      simp at hy
      rw [hy]
      exact hS⟩
theorem Mid.add {needs : List (List Int)} {i k : Int} {j : Nat} {td : List Int} {S : Int → Bool} (h : Mid needs i k j td S) (hj : j < (nd needs k.toNat).length) (hr : 0 ≤ rd (nd needs k.toNat) (j : Int) ∧ rd (nd needs k.toNat) (j : Int) < needs.length) :
    Mid needs i k (j + 1) (td ++ [rd (nd needs k.toNat) (j : Int)]) (IB.add S (rd (nd needs k.toNat) (j : Int))) := by
  have hm := rd_mem hj
  generalize hy : rd (nd needs k.toNat) (j : Int) = y at *
  have up : ∀ x, S x = true → IB.add S y x = true := fun x hx => by unfold IB.add; rw [hx, Bool.or_true]
  have dn : ∀ x, IB.add S y x = true → x = y ∨ S x = true := fun x hx => by
    unfold IB.add at hx
    rcases Bool.or_eq_true _ _ ▸ hx with hx | hx
    · exact .inl (of_decide_eq_true hx)
    · exact .inr hx
  have hyr : Reach needs i y := by
    rcases h.src with e | e
    · subst e; exact .one hm
    · exact .more (h.sound k e) hm
  refine ⟨fun x hx => ?_, fun x hx => ?_, fun x hx => ?_, ?_, fun x hx => ?_, fun z hz => ?_⟩
  · rcases dn x hx with e | e
    · rw [e]; exact hr
    · exact h.rng x e
  · rcases dn x hx with e | e
    · rw [e]; exact hyr
    · exact h.sound x e
  · rcases List.mem_append.1 hx with hx | hx
    · rcases h.todo x hx with e | e
      · exact .inl e
      · exact .inr (up x e)
    · simp at hx; subst hx; exact .inr (by unfold IB.add; simp)
  · rcases h.src with e | e
    · exact .inl e
    · exact .inr (up k e)
  · have hc : (x = i ∨ S x = true) ∨ x = y := by
      rcases hx with e | e
      · exact .inl (.inl e)
      · rcases dn x e with e | e
        · exact .inr e
        · exact .inl (.inr e)
    rcases hc with hc | hc
    · rcases h.closed x hc with e | e | e
      · exact .inl (List.mem_append_left _ e)
      · exact .inr (.inl e)
      · exact .inr (.inr fun z hz => up z (e z hz))
    · exact .inl (by simp [hc])
  · rw [List.take_add_one, List.getElem?_eq_getElem hj] at hz
    rcases List.mem_append.1 hz with hz | hz
    · exact up z (h.now z hz)
    · have e : rd (nd needs k.toNat) (j : Int) = (nd needs k.toNat)[j] := by simp [rd, hj]
      rw [hy] at e
      simp at hz
      rw [hz, ← e]
      unfold IB.add
      simp
theorem Mid.done {needs : List (List Int)} {i k : Int} {td : List Int} {S : Int → Bool} (h : Mid needs i k (nd needs k.toNat).length td S) : Inv needs i td S :=
  ⟨h.rng, h.sound, h.todo, fun x hx => by
    rcases h.closed x hx with e | e | e
    · exact .inl e
    · subst e
      have := h.now
      rw [List.take_length] at this
      exact .inr this
    · exact .inr e⟩
theorem Inv.done {needs : List (List Int)} {i : Int} {S : Int → Bool} (h : Inv needs i [] S) (x : Int) : S x = true ↔ Reach needs i x := by
  have hc : ∀ x, (x = i ∨ S x = true) → ∀ y ∈ nd needs x.toNat, S y = true := fun x hx => by
    rcases h.closed x hx with e | e
    · simp at e
    · exact e
  refine ⟨h.sound x, fun hr => ?_⟩
  induction hr with
  | one hm => exact hc i (.inl rfl) _ hm
  | more _ hm ih => exact hc _ (.inr ih) _ hm
/-- What was collected, sorted. -/
theorem sorted_behind {needs : List (List Int)} {i : Int} {S : Int → Bool} {xs : List Int} (hS : Inv needs i [] S) (hn : needs.length ≤ 1000) (hx : xs.Nodup) (h1 : ∀ x ∈ xs, IB.del S i x = true) (h2 : ∀ x, (Lit.int .i64 x).wf = true → IB.del S i x = true → x ∈ xs) (hi : 0 ≤ i ∧ i < needs.length) (hR : rightB needs = true) :
    (xs.mergeSort fun x y => decide (x ≤ y)) = behL needs i := by
  have hd : ∀ x, IB.del S i x = true ↔ Reach needs i x ∧ x ≠ i := fun x => by
    unfold IB.del
    rw [Bool.and_eq_true, hS.done x]
    simp [and_comm]
  have hpw : (behL needs i).Pairwise (fun a b => a < b) := by
    unfold behL
    apply List.Pairwise.filter
    rw [List.pairwise_map]
    exact List.Pairwise.imp (fun {a b} hab => Int.ofNat_lt.2 hab) (List.pairwise_lt_range (n := needs.length))
  refine List.Perm.eq_of_pairwise (le := fun a b : Int => a ≤ b) (fun a b _ _ h1 h2 => by omega) ?_ (List.Pairwise.imp (S := fun a b : Int => a ≤ b) (fun {a b} h => Int.le_of_lt h) hpw) ?_
  · have := List.pairwise_mergeSort (le := fun x y : Int => decide (x ≤ y)) (fun a b c h1 h2 => by simp at *; omega) (fun a b => by simp; omega) xs
    exact this.imp fun {a b} h => of_decide_eq_true h
  · refine (List.mergeSort_perm _ _).trans ((List.perm_ext_iff_of_nodup hx (List.Pairwise.imp (S := fun a b : Int => a ≠ b) (fun {a b} h => Int.ne_of_lt h) hpw)).2 fun a => ?_)
    unfold behL
    rw [List.mem_filter]
    constructor
    · intro ha
      have hda := h1 a ha
      have hr := (hd a).1 hda
      have hrng := hS.rng a ((hS.done a).2 hr.1)
      refine ⟨?_, by rw [reachB_iff.2 hr.1, decide_eq_false hr.2]; rfl⟩
      rw [List.mem_map]
      exact ⟨a.toNat, by rw [List.mem_range]; omega, by omega⟩
    · rintro ⟨ha, hb⟩
      have hr : Reach needs i a ∧ a ≠ i := by rw [Bool.and_eq_true, reachB_iff] at hb; exact ⟨hb.1, by simpa using hb.2⟩
      have hrng := hS.rng a ((hS.done a).2 hr.1)
      exact h2 a (wf64 (by omega) (by omega)) ((hd a).2 hr)
end Go.Proofs.Ytdknnekkbhpjlaa.H
