/- Rows of instructions that a call makes: what append does to them. Condition: the row is the call's own. -/
import Derived.Test.YtggchfdjpfodfaaHAwake
set_option linter.unusedVariables false
set_option linter.unusedSimpArgs false
namespace Go.Proofs.Ytggchfdjpfodfaa.H
open Go.RowKit Go.Proofs.YtggchfdjpfodfaaW.PrintWords Go.Proofs.YtggchfdjpfodfaaW.PrintLast Go.Proofs.YtggchfdjpfodfaaW.PrintMore Go.Proofs.Ytggchfdjpfodfaa.PFoldOf

/-- A row of instructions of the call's own. -/
def own48 (W : World) (base : Nat) (v : Value) (xs : List S48) : Prop := W.ownsRow base 48 8 v xs.length (xs.flatMap cells48)
theorem one48 (xs : List S48) : ∀ u ∈ xs.flatMap cells48, u.oneCell' = true := by
  intro u hu
  obtain ⟨x, _, hx⟩ := List.mem_flatMap.1 hu
  simp only [cells48, List.mem_cons, List.not_mem_nil, or_false] at hx
  rcases hx with rfl | rfl | rfl | rfl | rfl | rfl | rfl | rfl <;> rfl
theorem app48 {W : World} {ops : Array Oper} {rest : List Oper} {o : Oper} {a : Act} {Q : Exit → Act → World → Prop} (hgd : o.guard = none) (s x : Operand)
    (ho : o.op = .call { callee := .builtin .append, args := #[s, x], argTypes := #[43, 43] }) (base : Nat) (v : Value) (xs : List S48) (hs : a.eval s = v) (hown : own48 W base v xs)
    (g c : Nat) (ys : List S48) (n : Nat) (hn : n = ys.length) (hx : a.eval x = .slice (some ⟨g, 0, none⟩) n c) (cs : Array Value) (hcs : cs = (ys.flatMap cells48).toArray) (hg : W.heap[g]? = some (.cells cs 48 (0, 0))) (hl : xs.length + ys.length ≤ 1000000) (hbase : base ≤ W.heap.size)
    (h : ∀ v' w', own48 w' base v' (xs ++ ys) → W.grownBy w' v.ownBlock → (v'.ownBlock = v.ownBlock ∨ v'.ownBlock = some W.heap.size) → wpList Try.prog ops Q rest (a.put o.dst v') w') : wpList Try.prog ops Q (o :: rest) a W := by
  subst hn
  subst hcs
  obtain ⟨i0, hi, hz0, hz1, hz2⟩ := info_parts info48
  refine wpList_append_own_at W hgd s x 43 ho base 48 i0 _ 8 64 Try.underlying43 hi hz0 hz1 hz2 rfl (by decide) v xs.length (xs.flatMap cells48) hs hown ⟨g, 0, none⟩ ys.length c (ys.flatMap cells48) hx (flat48_len ys) (fun j u hj => ?_) (one48 ys) (by simp only [maxLen]; omega) (by omega) hbase (fun v' w' h1 h2 _ h4 => h v' w' ?_ h2 h4)
  · rw [add_plain, blk_cell hg j]
    simpa using hj
  · unfold own48
    rw [List.length_append, List.flatMap_append]
    exact h1
theorem own48_R {W : World} {base : Nat} {v : Value} {xs : List S48} (h : own48 W base v xs) : Kd.R k48 48 W base (fun _ => True) v xs := ⟨fun _ _ => trivial, xs.flatMap cells48, h, reps48 _ _ _ xs⟩
theorem own48_lit (W : World) (base : Nat) (hb : base ≤ W.heap.size) (xs : List S48) (hx : xs.length ≤ 1000000) (cs : Array Value) (hcs : cs = (xs.flatMap cells48).toArray) (n : Nat) (hn : n = xs.length) : own48 (W.alloc (.cells cs 48)) base (.slice (some ⟨W.heap.size, 0, none⟩) n n) xs := by
  subst hcs
  subst hn
  have h := World.ownsRow_lit (base := base) (e := 48) (size := 8) W (xs.flatMap cells48).toArray xs.length hb (by simp [maxLen]; omega) (by rw [List.size_toArray, flat48_len])
  rw [List.toList_toArray] at h
  exact h
theorem own48_alloc {W : World} {base : Nat} {v : Value} {xs : List S48} (h : own48 W base v xs) (o : Obj) : own48 (W.alloc o) base v xs := World.ownsRow.alloc h o
theorem own48_below {W w1 : World} {base : Nat} {v : Value} {xs : List S48} (h : own48 W base v xs) (hb : Below W.heap.size W w1) : own48 w1 base v xs := pw_own_below h hb
theorem own48_kept {W w1 : World} {base : Nat} {v : Value} {xs : List S48} {row : Option Nat} (h : own48 W base v xs) (hg : W.grownBy w1 row) (hne : v.ownBlock = none ∨ v.ownBlock ≠ row) : own48 w1 base v xs := World.ownsRow.kept h hg hne
theorem own48_lt {W : World} {base : Nat} {v : Value} {xs : List S48} (h : own48 W base v xs) (k : Nat) (hk : v.ownBlock = some k) : base ≤ k ∧ k < W.heap.size := ⟨own_base h k hk, own_lt h k hk⟩
theorem own48_slice {W : World} {base : Nat} {v : Value} {xs : List S48} (h : own48 W base v xs) : ∃ A c n, n = xs.length ∧ v = .slice A n c := by
  obtain ⟨A, c, e⟩ := own_slice h
  exact ⟨A, c, _, rfl, e⟩
end Go.Proofs.Ytggchfdjpfodfaa.H
