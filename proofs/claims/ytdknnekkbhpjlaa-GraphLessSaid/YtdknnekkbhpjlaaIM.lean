/- A map from ints to numbers of one kind that a call makes and keeps: what its block is good for (Is), and the laws of the operations on it: a look-up with ok, a store, a delete, a clear. No condition. -/
import Derived.Maps.OwnSet
import Derived.Maps.OwnOps
import Derived.WalkKit
import Derived.Deep.Draws
namespace Go.Proofs.Ytdknnekkbhpjlaa.IM
open Go.Maps Go.RowKit Go.ChangeMaps

/-- Block b of w is a map of n entries, from ints to numbers of kind q, that answers as M. -/
def Is (P : Program) (kt et : TypeId) (q : IntKind) (w : World) (b n : Nat) (M : Int → Option Int) : Prop :=
  ∃ D : DataW Unit, w.ownsMap P kt (plainElem P et) b n D ∧ (Tidy D ∧ size D = n) ∧ ∀ i, (Lit.int .i64 i).wf = true → has D (.int .i64 i) = (M i).isSome ∧ D.atKey (.int .i64 i) (.lit (.int q 0)) = .lit (.int q ((M i).getD 0))

section
variable {P : Program} {kt et t : TypeId} {q : IntKind} {w : World} {b n : Nat} {M : Int → Option Int}

theorem Is.lt (h : Is P kt et q w b n M) : b < w.heap.size := by
  obtain ⟨D, h1, _⟩ := h
  exact h1.lt
theorem Is.kept {w' : World} {row : Option Nat} (h : Is P kt et q w b n M) (hg : w.grownBy w' row) (hne : some b ≠ row) : Is P kt et q w' b n M := by
  obtain ⟨D, h1, ht, h2⟩ := h
  exact ⟨D, h1.kept hg hne, ht, h2⟩
theorem Is.alloc (h : Is P kt et q w b n M) (o : Obj) : Is P kt et q (w.alloc o) b n M := by
  obtain ⟨D, h1, ht, h2⟩ := h
  exact ⟨D, h1.alloc o, ht, h2⟩
theorem Is.setCell (h : Is P kt et q w b n M) {a : Addr} (ha : b ≠ a.block) (u : Value) : Is P kt et q (w.setCell a u) b n M := by
  obtain ⟨D, h1, ht, h2⟩ := h
  exact ⟨D, h1.setCell ha u, ht, h2⟩
theorem Is.drewN (h : Is P kt et q w b n M) (k : Nat) : Is P kt et q (w.drewN k) b n M := h
theorem Is.drew (h : Is P kt et q w b n M) : Is P kt et q w.drew b n M := h
theorem Is.same {w' : World} (h : Is P kt et q w b n M) (hb : w'.heap[b]? = w.heap[b]?) : Is P kt et q w' b n M := by
  obtain ⟨D, ⟨es, clock, h1, F, hs, hD⟩, h2⟩ := h
  exact ⟨D, ⟨es, clock, hb.trans h1, F, hs, hD⟩, h2⟩
theorem Is.made (w : World) : Is P kt et q (w.alloc (.map #[] 0)) w.heap.size 0 (fun _ => none) :=
  ⟨.map [], World.ownsMap_made _ _ _ _, ⟨tidy_empty, rfl⟩, fun _ _ => ⟨rfl, rfl⟩⟩

theorem isKey (i : Int) : WideAt.IsKeyLit (.int .i64 i) := by first | trivial | exact True.intro | (unfold WideAt.IsKeyLit; trivial)

theorem look {ops : Array Oper} {rest : List Oper} {o : Oper} {a : Act} {Q : Exit → Act → World → Prop} (hg : o.guard = none) (m x : Operand) (t : TypeId) (hop : o.op = Op.lookup t m x true)
    (ht : P.underlying t = some (.map kt et)) (hk : P.underlying kt = some (.int .i64)) (he : P.underlying et = some (.int q)) (hz : (zeroValue et).run P w = .ok (.int q 0) w)
    (hm : a.eval m = .map (some b)) (h : Is P kt et q w b n M) (i : Int) (hx : a.eval x = .int .i64 i) (hi : (Lit.int .i64 i).wf = true)
    (hK : wpList P ops Q rest (a.put o.dst (.tuple #[.int q ((M i).getD 0), .bool (M i).isSome])) w) : wpList P ops Q (o :: rest) a w := by
  obtain ⟨D, h1, htd, h2⟩ := h
  refine wpList_lookup_own_ok_int w hg m x t hop kt et q (int_keyed hk) ht he hz b n D hm h1 _ (.int .i64 i) hx (keyOf_int_mk hk hi) fun c hc _ => ?_
  rw [(h2 i hi).1]
  have e := (h2 i hi).2
  rw [hc] at e
  injection e with e
  injection e with _ e
  rw [e]
  exact hK

theorem run_look {i : Int} (ht : P.underlying t = some (.map kt et)) (hk : P.underlying kt = some (.int .i64)) (he : P.underlying et = some (.int q)) (hz : (zeroValue et).run P w = .ok (.int q 0) w)
    (h : Is P kt et q w b n M) (hi : (Lit.int .i64 i).wf = true) : Sem.run P (Instr.lookup t (.map (some b)) (.int .i64 i) false) w = .ok (.int q ((M i).getD 0)) w := by
  obtain ⟨D, h1, htd, h2⟩ := h
  obtain ⟨c, hr, hc, _⟩ := h1.lookup_int (int_keyed hk) ht he hz (keyOf_int_mk hk hi)
  have e := (h2 i hi).2
  rw [hc] at e
  injection e with e
  injection e with _ e
  rw [hr, e]
theorem length_insert {H : Type} (x : Lit × DataW H) (l : List (Lit × DataW H)) : (DataW.insert x l).length = l.length + 1 := by
  induction l with
  | nil => rfl
  | cons y l ih =>
    unfold DataW.insert
    split
    · simp
    · simp [ih]
theorem length_foldr {H : Type} (l : List (Lit × DataW H)) : (List.foldr DataW.insert [] l).length = l.length := by
  induction l with
  | nil => rfl
  | cons y l ih => simp only [List.foldr_cons, length_insert, ih, List.length_cons]
theorem own_exact {H : Type} {R : Value → Option (DataW H × List MemPlace)} {m : Nat} {D : DataW H} (h : w.ownsMap P kt R b n D) (hs : size D = m) : w.ownsMap P kt R b m D := by
  obtain ⟨es, cl, h1, h2, h3, rfl⟩ := h
  refine ⟨es, cl, h1, h2, ?_, rfl⟩
  rw [size_eq, length_foldr] at hs
  simp at hs
  omega
def upd (M : Int → Option Int) (i : Int) (v : Option Int) : Int → Option Int := fun j => if j = i then v else M j

theorem put {ops : Array Oper} {rest : List Oper} {o : Oper} {a : Act} {Q : Exit → Act → World → Prop} (hg : o.guard = none) (m x v : Operand) (t : TypeId) (hop : o.op = Op.mapUpdate t m x v)
    (ht : P.underlying t = some (.map kt et)) (hk : P.underlying kt = some (.int .i64)) (he : P.underlying et = some (.int q))
    (hm : a.eval m = .map (some b)) (h : Is P kt et q w b n M) (hn : n < maxLen) (i u : Int) (hx : a.eval x = .int .i64 i) (hi : (Lit.int .i64 i).wf = true) (hv : a.eval v = .int q u) (hu : (Lit.int q u).wf = true)
    (hK : ∀ w', Is P kt et q w' b (if (M i).isSome = true then n else n + 1) (upd M i (some u)) → w.grownBy w' (some b) → wpList P ops Q rest (a.put o.dst undef) w') : wpList P ops Q (o :: rest) a w := by
  obtain ⟨D, h1, htd, h2⟩ := h
  refine wpList_mapUpdate_own w hg m x v t hop kt et (int_keyed hk) ht _ b n D hm h1 hn _ _ (.int .i64 i) hx hv (keyOf_int_mk hk hi) _ [] (plainElem_int he hu) fun w' h3 h4 => hK w' ⟨_, own_exact h3 (by rw [size_put htd.1, htd.2, (h2 i hi).1]), ⟨htd.1.put (isKey _) _, by rw [size_put htd.1, htd.2, (h2 i hi).1]⟩, fun j hj => ?_⟩ h4
  by_cases e : j = i
  · subst e
    simp only [upd, ↓reduceIte]
    exact ⟨has_put_same h1.isMap (isKey _) _, atKey_put_same h1.isMap (isKey _) _ _⟩
  · have hne : (Lit.int .i64 j) ≠ .int .i64 i := by intro h; injection h with _ h; exact e h
    simp only [upd, if_neg e]
    rw [has_put_other hne, atKey_put_other hne]
    exact h2 j hj

theorem len {ops : Array Oper} {rest : List Oper} {o : Oper} {a : Act} {Q : Exit → Act → World → Prop} (hg : o.guard = none) (m : Operand) (t : TypeId) (hop : o.op = Op.call { callee := Callee.builtin Builtin.len, args := #[m], argTypes := #[t] })
    (ht : P.underlying t = some (.map kt et)) (hm : a.eval m = .map (some b)) (h : Is P kt et q w b n M)
    (hK : wpList P ops Q rest (a.put o.dst (.int .i64 n)) w) : wpList P ops Q (o :: rest) a w := by
  obtain ⟨D, h1, htd, h2⟩ := h
  refine wpList_len_own w hg m t hop kt et ht _ b n D hm h1 ?_
  rw [htd.2]
  exact hK
end
end Go.Proofs.Ytdknnekkbhpjlaa.IM
