/- A map from ints to bools that a call makes and keeps, all of whose entries are true: a look-up, a store of true, a delete, a range over it; and slices.Sort of ints, laid. No condition. -/
import Derived.Test.YtdknnekkbhpjlaaIM
import Derived.Test.YtdknnekkbhpjlaaHLevels
import Derived.Maps.RangeWalk
import Derived.Sort.OwnSortedInts
import Derived.Shelf.Sort.Plain
import Derived.Shelf.Slices.In.SortNone
import Derived.Shelf.Lay
import Derived.Shelf.LaySoft
import Derived.Ground.Names2Prog
set_option linter.unusedVariables false
set_option linter.unusedSimpArgs false
namespace Go.Proofs
open Go.RowKit Go.Maps Go.Sort Go.Shelf
shelf_lay Lays.n189 Nm 189 at Try as Try.lays189
theorem Ytdknnekkbhpjlaa.sort_calls (blk off cap : Nat) (zs : List Int) (w : World) (hH : Holds (Value.int .i64) w blk off zs.toArray) (hblk : blk < w.heap.size) (hsz : zs.length < 4611686018427387904) :
    Calls Try.prog 33 #[.slice (some ⟨blk, off, none⟩) zs.length cap] w fun e w' =>
      e = .returned (.tuple #[]) ∧ ∃ n os, w' = grow (putRow (Value.int .i64) (Sort.ahead w n) blk off (zs.mergeSort fun x y => decide (x ≤ y)).toArray) os := Any.slices_Sort_int Try.lays189 blk off cap zs w hH hblk hsz
theorem Ytdknnekkbhpjlaa.sort_none_calls (p : Option Addr) (cap : Nat) (w : World) : Calls Try.prog 33 #[.slice p 0 cap] w fun e w' => e = .returned (.tuple #[]) ∧ w' = w := Any.slices_Sort_int_none Try.lays189 p cap w
end Go.Proofs
namespace Go.Proofs.Ytdknnekkbhpjlaa.IB
open Go.Maps Go.RowKit Go.ChangeMaps

/-- Block b of w is a map of n entries, from ints to true, whose keys are those of S. -/
def Is (P : Program) (kt et : TypeId) (w : World) (b n : Nat) (S : Int → Bool) : Prop :=
  ∃ D : DataW Unit, w.ownsMap P kt (plainElem P et) b n D ∧ (Tidy D ∧ size D = n) ∧ ∀ i, (Lit.int .i64 i).wf = true → has D (.int .i64 i) = S i ∧ D.atKey (.int .i64 i) (.lit (.bool false)) = .lit (.bool (S i))

section
variable {P : Program} {kt et t : TypeId} {w : World} {b n : Nat} {S : Int → Bool}

theorem Is.lt (h : Is P kt et w b n S) : b < w.heap.size := by
  obtain ⟨D, h1, _⟩ := h
  exact h1.lt
theorem Is.kept {w' : World} {row : Option Nat} (h : Is P kt et w b n S) (hg : w.grownBy w' row) (hne : some b ≠ row) : Is P kt et w' b n S := by
  obtain ⟨D, h1, ht, h2⟩ := h
  exact ⟨D, h1.kept hg hne, ht, h2⟩
theorem Is.alloc (h : Is P kt et w b n S) (o : Obj) : Is P kt et (w.alloc o) b n S := by
  obtain ⟨D, h1, ht, h2⟩ := h
  exact ⟨D, h1.alloc o, ht, h2⟩
theorem Is.made (w : World) : Is P kt et (w.alloc (.map #[] 0)) w.heap.size 0 (fun _ => false) :=
  ⟨.map [], World.ownsMap_made _ _ _ _, ⟨tidy_empty, rfl⟩, fun _ _ => ⟨rfl, rfl⟩⟩
theorem plainElem_bool_inv (he : P.underlying et = some .bool) {v : Value} {z : DataW Unit × List MemPlace} (h : plainElem P et v = some z) : ∃ x, v = .bool x ∧ z = (.lit (.bool x), []) := by
  unfold plainElem at h
  rw [he] at h
  split at h
  · next h1 => injection h with h; exact ⟨_, rfl, h.symm⟩
  · next h1 => cases h1
  · next h1 => cases h1
  · cases h
theorem run_look {i : Int} (ht : P.underlying t = some (.map kt et)) (hk : P.underlying kt = some (.int .i64)) (he : P.underlying et = some .bool) (hz : (zeroValue et).run P w = .ok (.bool false) w)
    (h : Is P kt et w b n S) (hi : (Lit.int .i64 i).wf = true) : Sem.run P (Instr.lookup t (.map (some b)) (.int .i64 i) false) w = .ok (.bool (S i)) w := by
  obtain ⟨D, h1, htd, h2⟩ := h
  obtain ⟨v, ps, hr, hc⟩ := h1.lookup (int_keyed hk) ht hz (plainElem_bool he false) (keyOf_int_mk hk hi)
  obtain ⟨x, rfl, hx⟩ := plainElem_bool_inv he hc
  injection hx with hx
  rw [(h2 i hi).2] at hx
  injection hx with hx
  injection hx with hx
  subst hx
  exact hr
def add (S : Int → Bool) (i : Int) : Int → Bool := fun j => decide (j = i) || S j
def del (S : Int → Bool) (i : Int) : Int → Bool := fun j => !decide (j = i) && S j
theorem put {ops : Array Oper} {rest : List Oper} {o : Oper} {a : Act} {Q : Exit → Act → World → Prop} (hg : o.guard = none) (m x v : Operand) (t : TypeId) (hop : o.op = Op.mapUpdate t m x v)
    (ht : P.underlying t = some (.map kt et)) (hk : P.underlying kt = some (.int .i64)) (he : P.underlying et = some .bool)
    (hm : a.eval m = .map (some b)) (h : Is P kt et w b n S) (hn : n < maxLen) (i : Int) (hx : a.eval x = .int .i64 i) (hi : (Lit.int .i64 i).wf = true) (hv : a.eval v = .bool true)
    (hK : ∀ w', Is P kt et w' b (if S i = true then n else n + 1) (add S i) → w.grownBy w' (some b) → wpList P ops Q rest (a.put o.dst undef) w') : wpList P ops Q (o :: rest) a w := by
  obtain ⟨D, h1, htd, h2⟩ := h
  refine wpList_mapUpdate_own w hg m x v t hop kt et (int_keyed hk) ht _ b n D hm h1 hn _ _ (.int .i64 i) hx hv (keyOf_int_mk hk hi) _ [] (plainElem_bool he true) fun w' h3 h4 => hK w' ⟨_, IM.own_exact h3 (by rw [size_put htd.1, htd.2, (h2 i hi).1]), ⟨htd.1.put (IM.isKey _) _, by rw [size_put htd.1, htd.2, (h2 i hi).1]⟩, fun j hj => ?_⟩ h4
  by_cases e : j = i
  · subst e
    simp only [add, decide_true, Bool.true_or]
    exact ⟨has_put_same h1.isMap (IM.isKey _) _, atKey_put_same h1.isMap (IM.isKey _) _ _⟩
  · have hne : (Lit.int .i64 j) ≠ .int .i64 i := by intro h; injection h with _ h; exact e h
    simp only [add, decide_eq_false e, Bool.false_or]
    rw [has_put_other hne, atKey_put_other hne]
    exact h2 j hj
theorem put_new {ops : Array Oper} {rest : List Oper} {o : Oper} {a : Act} {Q : Exit → Act → World → Prop} (hg : o.guard = none) (m x v : Operand) (t : TypeId) (hop : o.op = Op.mapUpdate t m x v)
    (ht : P.underlying t = some (.map kt et)) (hk : P.underlying kt = some (.int .i64)) (he : P.underlying et = some .bool)
    (hm : a.eval m = .map (some b)) (h : Is P kt et w b n S) (hn : n < maxLen) (i : Int) (hS : S i = false) (hx : a.eval x = .int .i64 i) (hi : (Lit.int .i64 i).wf = true) (hv : a.eval v = .bool true)
    (hK : ∀ w', Is P kt et w' b (n + 1) (add S i) → w.grownBy w' (some b) → wpList P ops Q rest (a.put o.dst undef) w') : wpList P ops Q (o :: rest) a w :=
  put hg m x v t hop ht hk he hm h hn i hx hi hv (fun w' h hg => hK w' (by rwa [if_neg (by rw [hS]; decide)] at h) hg)
/-- Behind a delete only the keys matter. -/
def Keys (P : Program) (kt et : TypeId) (w : World) (b n : Nat) (S : Int → Bool) : Prop :=
  ∃ D : DataW Unit, w.ownsMap P kt (plainElem P et) b n D ∧ ∀ i, (Lit.int .i64 i).wf = true → has D (.int .i64 i) = S i
theorem drop {ops : Array Oper} {rest : List Oper} {o : Oper} {a : Act} {Q : Exit → Act → World → Prop} (hg : o.guard = none) (m x : Operand) (t : TypeId) (hop : o.op = Op.call { callee := Callee.builtin Builtin.delete, args := #[m, x], argTypes := #[t, kt] })
    (ht : P.underlying t = some (.map kt et)) (hk : P.underlying kt = some (.int .i64)) (hm : a.eval m = .map (some b)) (h : Is P kt et w b n S) (i : Int) (hx : a.eval x = .int .i64 i) (hi : (Lit.int .i64 i).wf = true)
    (hK : ∀ w', Keys P kt et w' b n (del S i) → w.mapTurned w' b → wpList P ops Q rest (a.put o.dst (.tuple #[])) w') : wpList P ops Q (o :: rest) a w := by
  obtain ⟨D, h1, htd, h2⟩ := h
  refine wpList_delete_own w hg m x t kt hop et (int_keyed hk) ht _ b n D hm h1 _ (.int .i64 i) hx (keyOf_int_mk hk hi) fun w' h3 h4 => hK w' ⟨_, h3, fun j hj => ?_⟩ h4
  by_cases e : j = i
  · subst e
    simp only [del, decide_true, Bool.not_true, Bool.false_and]
    exact has_del_same
  · have hne : (Lit.int .i64 j) ≠ .int .i64 i := by intro h; injection h with _ h; exact e h
    simp only [del, decide_eq_false e, Bool.not_false, Bool.true_and]
    rw [has_del_other hne]
    exact (h2 j hj).1

/-- A round over the keys is under way: xs have come. -/
def Round (P : Program) (kt et : TypeId) (w : World) (b r n : Nat) (S : Int → Bool) (xs : List Int) (c : Nat) : Prop :=
  ∃ (D : DataW Unit) (left : Lit → Bool), w.ranges P kt (plainElem P et) b r n D left c ∧ xs.Nodup ∧ (∀ x ∈ xs, (Lit.int .i64 x).wf = true ∧ S x = true) ∧ ∀ i, (Lit.int .i64 i).wf = true → left (.int .i64 i) = (S i && !decide (i ∈ xs))
theorem Round.kept {w' : World} {row : Option Nat} {r c : Nat} {xs : List Int} (h : Round P kt et w b r n S xs c) (hg : w.grownBy w' row) (hb : some b ≠ row) (hr : some r ≠ row) : Round P kt et w' b r n S xs c := by
  obtain ⟨D, left, h1, h2⟩ := h
  exact ⟨D, left, h1.kept hg hb hr, h2⟩
theorem Round.left_eq {r c : Nat} {xs : List Int} (h : Round P kt et w b r n S xs c) : w.rangeLeft b r = c := by
  obtain ⟨D, left, h1, h2⟩ := h
  exact h1.left_eq
theorem Round.lt {r c : Nat} {xs : List Int} (h : Round P kt et w b r n S xs c) : r < w.heap.size ∧ b < w.heap.size := by
  obtain ⟨D, left, h1, h2⟩ := h
  exact ⟨h1.lt, h1.owns.lt⟩
theorem start {ops : Array Oper} {rest : List Oper} {o : Oper} {a : Act} {Q : Exit → Act → World → Prop} (hg : o.guard = none) (m : Operand) (t : TypeId) (hop : o.op = Op.range t m)
    (ht : P.underlying t = some (.map kt et)) (hk : P.underlying kt = some (.int .i64)) (hm : a.eval m = .map (some b)) (h : Keys P kt et w b n S)
    (hK : ∀ w' c, Round P kt et w' b w.heap.size n S [] c → w.grownBy w' none → w'.heap.size = w.heap.size + 1 → wpList P ops Q rest (a.put o.dst (.pointer (some ⟨w.heap.size, 0, none⟩))) w') : wpList P ops Q (o :: rest) a w := by
  obtain ⟨D, h1, h2⟩ := h
  refine wpList_range_own w hg m t hop kt et (int_keyed hk) ht _ b n D hm h1 fun w' h3 h4 h5 => hK w' _ ⟨D, _, h3, List.nodup_nil, by simp, fun i hi => ?_⟩ h4 h5
  rw [h2 i hi]
  simp
theorem next {ops : Array Oper} {rest : List Oper} {o : Oper} {a : Act} {Q : Exit → Act → World → Prop} {r c : Nat} {xs : List Int} (hg : o.guard = none) (it : Operand) (hop : o.op = Op.next it false)
    (hk : P.underlying kt = some (.int .i64)) (he : P.underlying et = some .bool) (hit : a.eval it = .pointer (some ⟨r, 0, none⟩)) (h : Round P kt et w b r n S xs c)
    (hDone : (∀ i, (Lit.int .i64 i).wf = true → S i = true → i ∈ xs) → wpList P ops Q rest (a.put o.dst (.tuple #[.bool false])) w)
    (hMore : ∀ (x : Int) (v : Value) (w' : World) (c' : Nat), (Lit.int .i64 x).wf = true → S x = true → x ∉ xs → Round P kt et w' b r n S (xs ++ [x]) c' → c' < c →
      w.grownBy w' (some r) → w'.heap.size = w.heap.size → (Instr.entry (.pointer (some ⟨r, 0, none⟩))).run P w' = .ok (.tuple #[.int .i64 x, v]) w' → wpList P ops Q rest (a.put o.dst (.tuple #[.bool true, .int .i64 x, v])) w') :
    wpList P ops Q (o :: rest) a w := by
  obtain ⟨D, left, h1, h2, h3, h4⟩ := h
  refine wpList_next_ranges w hg it hop kt (int_keyed hk) (plainElem P et) (Value.int .i64) Value.bool (fun key kl hkey => by obtain ⟨x, rfl, _⟩ := Maps.keyOf_int_inv hk hkey; exact ⟨x, rfl⟩) (fun v y hv => by obtain ⟨x, rfl, _⟩ := plainElem_bool_inv he hv; exact ⟨x, rfl⟩) b r n D left c hit h1 (fun _ hl => hDone fun i hi hs => ?_) fun x v kl y w' c' hkey hlk _ _ hr hlt hgr hsz hent => ?_
  · have := h4 i hi
    rw [hl, hs] at this
    simpa using this.symm
  · obtain ⟨x', e, rfl, hwx⟩ := Maps.keyOf_int_inv hk hkey
    injection e with _ e
    subst e
    have hx := h4 x hwx
    rw [hlk] at hx
    have hx2 : S x = true ∧ x ∉ xs := by simpa using hx.symm
    refine hMore x (.bool v) w' c' hwx hx2.1 hx2.2 ⟨D, _, hr, ?_, ?_, fun i hi => ?_⟩ hlt hgr hsz hent
    · rw [List.nodup_append]
      exact ⟨h2, by simp, fun p hp q hq => by simp at hq; subst hq; exact fun e => hx2.2 (e ▸ hp)⟩
    · intro z hz
      rcases List.mem_append.1 hz with hz | hz
      · exact h3 z hz
      · simp at hz; subst hz; exact ⟨hwx, hx2.1⟩
    · rw [h4 i hi]
      by_cases e : i = x
      · subst e
        simp [Lit.sameKey]
      · simp [Lit.sameKey, e]
end
end Go.Proofs.Ytdknnekkbhpjlaa.IB
