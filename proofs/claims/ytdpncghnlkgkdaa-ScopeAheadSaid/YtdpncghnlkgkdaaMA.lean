/- What package scope is to tell, in plain Lean: the uses in expressions and statements, what a name is, whether names and numbers are right, the calls. No condition.
   slices.Grow of nil, slices.Concat of strings, scope.own, walked: a function's parameters, then its locals. Condition: there are at most 1000 of each.
   slices.Clone, Sort, Compact of strings, and of numbers, laid here; scope.unlike, walked. Condition: of at most 1000000 names.
   slices.Index of strings, slices.IndexFunc of arrays and functions by name, walked: where a name stands. Condition: the rows lie in memory. -/
import Derived.Test.YtdpncghnlkgkdaaG0
import Derived.Sort.OwnSorted
import Derived.Sort.OwnSortedInts
import Derived.Shelf.Sort.Plain
import Derived.Shelf.Slices.In.SortNone
import Derived.Shelf.Slices.CompactI
import Derived.Shelf.Slices.CompactS
import Derived.Shelf.Lay
import Derived.Shelf.LaySoft
import Derived.Ground.NamesProg
import Derived.Ground.Names2Prog
import Derived.Shelf.GgClosure.Gives
set_option linter.unusedVariables false
set_option linter.unusedSimpArgs false
namespace Go.Proofs.Ytdpncghnlkgkdaa.H
open Go.RowKit Go.Proofs.YtdpncghnlkgkdaaW.PrintWords Go.Proofs.YtdpncghnlkgkdaaW.PrintLast Go.Proofs.YtdpncghnlkgkdaaW.PrintMore Go.Proofs.Ytdpncghnlkgkdaa.G

/-- A use: a name, as what (2 a word, 3 an array, 4 a function), how many arguments. -/
structure U where
  name : ByteArray
  kind : Int
  args : Int
def useE (e : S37) : List U :=
  if e.f0 = 2 then [⟨e.f3, 2, -1⟩] else if e.f0 = 3 then [⟨e.f3, 3, -1⟩] else if e.f0 = 4 then [⟨e.f3, 4, e.f4.length⟩] else []
def usesE : List S37 → List U
  | [] => []
  | e :: r => useE e ++ usesE e.f4 ++ usesE r
termination_by l => SizeOf.sizeOf l
decreasing_by
  · cases e; simp; omega
  · simp; omega
def useS (s : S33) : List U :=
  if s.f0 = 1 then [⟨s.f1, 2, -1⟩] else if s.f0 = 2 then [⟨s.f1, 3, -1⟩] else if s.f0 = 6 then [⟨s.f1, 4, s.f2.length⟩] else []
def usesS : List S33 → List U
  | [] => []
  | s :: r => useS s ++ usesE s.f2 ++ usesS s.f3 ++ usesS s.f4 ++ usesS r
termination_by l => SizeOf.sizeOf l
decreasing_by
  · cases s; simp; omega
  · cases s; simp; omega
  · simp; omega
theorem usesE_nil : usesE [] = [] := by rw [usesE]
theorem usesE_cons (e : S37) (r : List S37) : usesE (e :: r) = useE e ++ usesE e.f4 ++ usesE r := by rw [usesE]
theorem usesS_nil : usesS [] = [] := by rw [usesS]
theorem usesS_cons (s : S33) (r : List S33) : usesS (s :: r) = useS s ++ usesE s.f2 ++ usesS s.f3 ++ usesS s.f4 ++ usesS r := by rw [usesS]
theorem usesE_append (a b : List S37) : usesE (a ++ b) = usesE a ++ usesE b := by
  induction a with
  | nil => simp [usesE_nil]
  | cons e r ih => rw [List.cons_append, usesE_cons, usesE_cons, ih]; simp [List.append_assoc]
theorem usesS_append (a b : List S33) : usesS (a ++ b) = usesS a ++ usesS b := by
  induction a with
  | nil => simp [usesS_nil]
  | cons e r ih => rw [List.cons_append, usesS_cons, usesS_cons, ih]; simp [List.append_assoc]
/-- Where a name stands in a list; -1: nowhere. -/
def placeP : List ByteArray → ByteArray → Int
  | [], _ => -1
  | x :: r, s => if x = s then 0 else let k := placeP r s; if k < 0 then -1 else k + 1
def ownP (f : S40) : List ByteArray := f.f1 ++ f.f2
/-- What a name is. -/
def findP (vs : List ByteArray) (ar : List S68) (fs : List S40) (f : Int) (s : ByteArray) : Int × Int :=
  let own := if 0 ≤ f ∧ f < fs.length then placeP (ownP (rd_T40 fs f)) s else -1
  if 0 ≤ own then (1, own)
  else if 0 ≤ placeP vs s then (2, placeP vs s)
  else if 0 ≤ placeP (ar.map (·.f0)) s then (3, placeP (ar.map (·.f0)) s)
  else if 0 ≤ placeP (fs.map (·.f0)) s then (4, placeP (fs.map (·.f0)) s)
  else (0, -1)
def unlikeB (l : List ByteArray) : Bool := decide (l.Nodup)
def namesP (vs : List ByteArray) (ar : List S68) (fs : List S40) : List ByteArray := vs ++ ar.map (·.f0) ++ fs.map (·.f0)
/-- Is a use right, in the function of a number? -/
def rightU (vs : List ByteArray) (ar : List S68) (fs : List S40) (i : Int) (u : U) : Bool :=
  let k := findP vs ar fs i u.name
  if u.kind = 2 then k.1 == 1 || k.1 == 2 else if u.kind = 3 then k.1 == 3 else if u.kind = 4 then k.1 == 4 && decide (k.2 < i) else true
def namedP (vs : List ByteArray) (ar : List S68) (fs : List S40) : Bool :=
  fs.all (fun f => unlikeB (ownP f)) && unlikeB (namesP vs ar fs) && fs.zipIdx.all fun fi => (usesS fi.1.f4).all (rightU vs ar fs fi.2)
def countU (vs : List ByteArray) (ar : List S68) (fs : List S40) (i : Int) (u : U) : Bool :=
  if u.kind = 4 then decide (((rd_T40 fs (findP vs ar fs i u.name).2).f1.length : Int) = u.args) else true
def mainS : ByteArray := ⟨#[109, 97, 105, 110]⟩
def lastP (fs : List S40) : Bool :=
  let l := rd_T40 fs ((fs.length : Int) - 1)
  decide (l.f0 = mainS) && (l.f1.length == 0) && !l.f3
def countedP (vs : List ByteArray) (ar : List S68) (fs : List S40) : Bool :=
  (fs.zipIdx.all fun fi => (usesS fi.1.f4).all (countU vs ar fs fi.2)) && lastP fs
def checkP (vs : List ByteArray) (ar : List S68) (fs : List S40) : Int :=
  if namedP vs ar fs then if countedP vs ar fs then 0 else 1 else 4
end Go.Proofs.Ytdpncghnlkgkdaa.H
set_option linter.unusedVariables false
set_option linter.unusedSimpArgs false
namespace Go.Proofs.Ytdpncghnlkgkdaa.H
open Go.RowKit Go.Proofs.YtdpncghnlkgkdaaW.PrintWords Go.Proofs.YtdpncghnlkgkdaaW.PrintLast Go.Proofs.YtdpncghnlkgkdaaW.PrintMore Go.Proofs.Ytdpncghnlkgkdaa.G

abbrev KStr : Kd (List ByteArray) := Kd.slice 9 Kd.string
theorem i9' : ∃ i : TypeInfo, Try.prog.info? 9 = some i ∧ i.size = 1 := by
  have h := info9
  cases e : Try.prog.info? 9 with
  | none => rw [e] at h; cases h
  | some i =>
    rw [e] at h
    injection h with h
    injection h with _ h
    injection h with h _
    exact ⟨i, rfl, h⟩
theorem R_slicen {α : Type} {d : Kd α} {e base : Nat} {w : World} {ok : Nat → Prop} {v : Value} {xs : List α} (h : d.R e w base ok v xs) : ∃ A n c, v = .slice A n c := by
  obtain ⟨A, c, h⟩ := Kd.R_slice h
  exact ⟨A, _, c, h⟩
theorem ninfo {n : Int} (h : (n == 0) = true) : n = 0 := by simpa using h
set_option maxHeartbeats 1000000 in
set_option maxRecDepth 100000 in
theorem grow_calls (n : Nat) (w : World) (hn : n ≤ 2000000) : Calls Try.prog 67 #[.slice none 0 0, .int .i64 n] w fun e w' => ∃ v, e = .returned v ∧ Kd.R Kd.string 9 w' w.heap.size (fun _ => True) v [] ∧ Below w.heap.size w w' := by
  obtain ⟨ti, hi9, hs9⟩ := i9'
  by_cases h0 : n = 0
  · subst h0
    go_enter Try.func67, Try.ntmps67
    go_wp2_with (fail)
    go_ret
    exact ⟨_, rfl, Kd.R_nil _ _ _ _ _, Below.refl _ _⟩
  · have hn0 : 0 < n := by omega
    have c1 := cut_to (P := Try.prog) 22 9 .i64 Try.underlying22 hi9 none 0 0 0 (by omega) (by omega) (by omega)
    go_enter Try.func67, Try.ntmps67
    go_wp2_with (at_builtin; refine Kd.R_append_zeros Kd.string (w0 := w) w.heap.size rfl (.tmp 20) (.tmp 21) 22 3 9 (.string ⟨#[]⟩) 16 rfl Try.underlying22 Try.underlying3 info9 rfl (by decide) (by omega) (.slice none 0 0) [] ⟨#[]⟩ (n : Int) (fun _ => True) rfl rfl rfl (fun _ _ => trivial) (Kd.R_nil _ _ _ _ _) (by omega) (Below.refl _ _) (Nat.le_refl _) (by simp; omega) ?_)
    intro v1 w1 hR hB hg hat
    obtain ⟨A1, n1, c1', rfl⟩ := R_slicen hR
    have hle := (Kd.R_reads' hR).2.1
    have c2 := cut_to (P := Try.prog) 22 9 .i64 Try.underlying22 hi9 A1 n1 c1' 0 (by omega) (by omega) hle
    have HR := Aside0.mk (Kd.R_take hR (m := 0) (Nat.zero_le _))
    clear hR hg hat hle
    go_wp2_with (fail)
    go_ret
    exact ⟨_, rfl, HR.out, hB⟩

def ndS (rows : List (List ByteArray)) (i : Nat) : List ByteArray := rows.getD i []
theorem rd_ndS (rows : List (List ByteArray)) (i : Nat) : rd_L4 rows (i : Int) = ndS rows i := by simp [rd_L4, ndS]
theorem ndS_mem {rows : List (List ByteArray)} {i : Nat} (h : i < rows.length) : ndS rows i ∈ rows := by
  unfold ndS
  rw [List.getD_eq_getElem?_getD, List.getElem?_eq_getElem h]
  exact List.getElem_mem h
def sumTo (rows : List (List ByteArray)) : Nat → Nat
  | 0 => 0
  | k + 1 => sumTo rows k + (ndS rows k).length
theorem sumTo_le {rows : List (List ByteArray)} (h : ∀ l ∈ rows, l.length ≤ 1000) : ∀ k, k ≤ rows.length → sumTo rows k ≤ k * 1000
  | 0, _ => Nat.le_refl _
  | k + 1, hk => by
    have h1 := sumTo_le h k (by omega)
    have h2 := h _ (ndS_mem (rows := rows) (i := k) (by omega))
    have h3 : (k + 1) * 1000 = k * 1000 + 1000 := Nat.succ_mul _ _
    simp only [sumTo]
    omega
theorem flat_succ {rows : List (List ByteArray)} {k : Nat} (hk : k < rows.length) : (rows.take (k + 1)).flatten = (rows.take k).flatten ++ ndS rows k := by
  rw [List.take_succ_eq_append_getElem hk, List.flatten_append]
  unfold ndS
  rw [List.getD_eq_getElem?_getD, List.getElem?_eq_getElem hk]
  simp
theorem flat_len {rows : List (List ByteArray)} : ∀ k, k ≤ rows.length → (rows.take k).flatten.length = sumTo rows k
  | 0, _ => by simp [sumTo]
  | k + 1, hk => by rw [flat_succ (by omega), List.length_append, flat_len k (by omega)]; rfl

set_option maxHeartbeats 4000000 in
theorem concat_calls (A : Option Addr) (c : Nat) (rows : List (List ByteArray)) (w : World) (hr : Kd.C KStr w A rows.length rows) (hc : rows.length ≤ c) (hl : rows.length ≤ 1001) (hrow : ∀ l ∈ rows, l.length ≤ 1000) :
    Calls Try.prog 56 #[.slice A rows.length c] w fun e w' => ∃ v, e = .returned v ∧ Kd.R Kd.string 9 w' w.heap.size (fun _ => True) v rows.flatten ∧ Below w.heap.size w w' := by
  have HS := Aside0.mk (fun k hk => sumTo_le hrow k hk)
  go_enter Try.func56, Try.ntmps56
  go_wp2_with (fail)
  go_loop [3, 11] (fun v3 i => ∃ k : Nat, k ≤ rows.length ∧ i = .int .i64 k ∧ v3 = .int .i64 (sumTo rows k)) (fun _ i => rows.length - (intOf i).toNat)
  case atStart => exact ⟨0, Nat.zero_le _, rfl, rfl⟩
  case round =>
    obtain ⟨k, hk, rfl, rfl⟩ := hrel
    have hs := HS.out k hk
    by_cases hlt : k < rows.length
    · obtain ⟨ad, A0, c0, rfl, x0, hl0, hC0⟩ := at_L4 hr (k : Int) (by omega) (by omega)
      rw [rd_ndS] at x0 hl0 hC0
      rw [Int.toNat_natCast] at x0
      have hrl := hrow _ (ndS_mem hlt)
      go_wp2_with (fail)
      go_round
      case rel => exact ⟨k + 1, hlt, by go_num, by simp only [sumTo]; go_num⟩
      case measure => simp [intOf]; omega
    · obtain rfl : k = rows.length := by omega
      go_wp2_with (fail)
      refine (grow_calls (sumTo rows rows.length) w (by omega)).mono ?_
      rintro e w1 ⟨v, rfl, hR1, hB1⟩
      obtain ⟨A1, c1, rfl⟩ := Kd.R_slice hR1
      have hr1 := Kd.C_below hr hB1
      go_wp2_with (fail)
      go_loopw [6, 27] (fun v6 i wr => ∃ (k : Nat) (A6 : Option Addr) (c6 : Nat), k ≤ rows.length ∧ i = .int .i64 k ∧ v6 = .slice A6 (rows.take k).flatten.length c6 ∧ Aside0 (Kd.R Kd.string 9 wr w.heap.size (fun _ => True) (.slice A6 (rows.take k).flatten.length c6) (rows.take k).flatten) ∧ Aside0 (Below w.heap.size w wr)) (fun _ i _ => rows.length - (intOf i).toNat)
      case atStart => exact ⟨0, A1, c1, Nat.zero_le _, rfl, rfl, ⟨hR1⟩, ⟨hB1⟩⟩
      case round =>
        clear hR1 hB1 hr1
        obtain ⟨k, A6, c6, hk, rfl, rfl, HR, HB⟩ := hrel
        obtain ⟨wo, rfl⟩ : ∃ wo : World, wo = wr := ⟨_, rfl⟩
        by_cases hlt : k < rows.length
        · obtain ⟨ad, A0, c0, rfl, x0, hl0, hC0⟩ := at_L4 (Kd.C_below hr HB.out) (k : Int) (by omega) (by omega)
          rw [rd_ndS] at x0 hl0 hC0
          rw [Int.toNat_natCast] at x0
          have hrl := hrow _ (ndS_mem hlt)
          have hfl := flat_len (rows := rows) k hk
          have hsk := HS.out k hk
          have HFS := Aside0.mk (flat_succ hlt)
          generalize (rows.take k).flatten = xs at *
          generalize ndS rows k = l at *
          have hxl : xs.length ≤ k * 1000 := by omega
          have hxl2 : xs.length ≤ 2000000 := by omega
          clear hfl hsk hxl
          have hsz := HB.out.size
          go_wp2_with (at_builtin; refine Kd.R_append_rows Kd.string (w0 := wo) w.heap.size rfl (.tmp 31) (.tmp 32) 22 9 (.string ⟨#[]⟩) 16 rfl Try.underlying22 info9 rfl (by decide) (by omega) (.slice A6 xs.length c6) xs l A0 l.length c0 (fun _ => True) (fun _ => False) rfl rfl HR.out hC0 (fun _ _ h => h) (fun _ h => h.elim) (fun _ _ => trivial) (Below.refl _ _) hsz (by omega) ?_)
          intro v1 w5 hR5 hB5 hg5 hat5
          obtain ⟨A7, c7, rfl⟩ := Kd.R_slice hR5
          have HR5 := Aside0.mk hR5
          have HB5 := Aside0.mk (HB.out.grown hg5 hsz (fun q e => (Kd.R_bound HR.out).1 q e |>.2.1))
          clear hR5 hB5 hg5 hat5
          go_wp2_with (fail)
          go_roundw
          case rel => exact ⟨k + 1, A7, c7, hlt, by go_num, by rw [HFS.out], ⟨by rw [HFS.out]; exact HR5.out⟩, HB5⟩
          case measure => simp [intOf]; omega
        · obtain rfl : k = rows.length := by omega
          go_wp2_with (fail)
          go_ret
          exact ⟨_, rfl, by have h := HR.out; rw [List.take_length] at h; rw [List.take_length]; exact h, HB.out⟩

set_option maxRecDepth 100000 in
/-- Two rows that lie in a new row. -/
theorem C_two {w : World} {g : Nat} {A1 A2 : Option Addr} {c1 c2 : Nat} {l1 l2 : List ByteArray} (hb : w.heap[g]? = some (.cells #[.slice A1 l1.length c1, .slice A2 l2.length c2] 22 (0, 0))) (h1 : Kd.C Kd.string w A1 l1.length l1) (hc1 : l1.length ≤ c1) (h2 : Kd.C Kd.string w A2 l2.length l2) (hc2 : l2.length ≤ c2) :
    Kd.C KStr w (some ⟨g, 0, none⟩) [l1, l2].length [l1, l2] := by
  refine ⟨rfl, by simp, fun _ => ⟨_, rfl, fun j p hp => ?_⟩⟩
  rcases j with _ | _ | j
  · simp at hp
    subst hp
    refine ⟨_, rfl, ⟨A1, c1, rfl, hc1, h1⟩, fun i u hu => ?_⟩
    cases i with
    | zero => simp at hu; subst hu; exact (blk_cell hb 0).trans rfl
    | succ i => simp at hu
  · simp at hp
    subst hp
    refine ⟨_, rfl, ⟨A2, c2, rfl, hc2, h2⟩, fun i u hu => ?_⟩
    cases i with
    | zero => simp at hu; subst hu; exact (blk_cell hb 1).trans rfl
    | succ i => simp at hu
  · simp at hp
set_option maxRecDepth 100000 in
theorem own_calls (f0 : ByteArray) (A1 : Option Addr) (c1 : Nat) (l1 : List ByteArray) (A2 : Option Addr) (c2 : Nat) (l2 : List ByteArray) (f3 : Bool) (v4 : Value) (w : World) (h1 : Kd.C Kd.string w A1 l1.length l1) (hc1 : l1.length ≤ c1) (h2 : Kd.C Kd.string w A2 l2.length l2) (hc2 : l2.length ≤ c2) (hl1 : l1.length ≤ 1000) (hl2 : l2.length ≤ 1000) (h4 : ∃ A n c, v4 = .slice A n c) :
    Calls Try.prog 34 #[.agg #[.string f0, .slice A1 l1.length c1, .slice A2 l2.length c2, .bool f3, v4]] w fun e w' => ∃ v, e = .returned v ∧ Kd.R Kd.string 9 w' w.heap.size (fun _ => True) v (l1 ++ l2) ∧ Below w.heap.size w w' := by
  obtain ⟨A4, n4, c4, rfl⟩ := h4
  have H1 := Aside0.mk h1
  have H2 := Aside0.mk h2
  clear h1 h2
  go_enter Try.func34, Try.ntmps34
  go_wp2_with (fail)
  have hb1 := blk_new (w.alloc (.cells #[.string f0, .slice A1 l1.length c1, .slice A2 l2.length c2, .bool f3, .slice A4 n4 c4] 40)) (.cells #[.slice A1 l1.length c1, .slice A2 l2.length c2] 22)
  rw [show (w.alloc (.cells #[.string f0, .slice A1 l1.length c1, .slice A2 l2.length c2, .bool f3, .slice A4 n4 c4] 40)).heap.size = w.heap.size + 1 by simp] at hb1
  have hB1 := below_alloc (below_alloc (Below.refl w.heap.size w) (.cells #[.string f0, .slice A1 l1.length c1, .slice A2 l2.length c2, .bool f3, .slice A4 n4 c4] 40)) (.cells #[.slice A1 l1.length c1, .slice A2 l2.length c2] 22)
  have hC := C_two hb1 (Kd.C_below H1.out hB1) hc1 (Kd.C_below H2.out hB1) hc2
  have hcc := concat_calls (some ⟨w.heap.size + 1, 0, none⟩) 2 [l1, l2] _ hC (by simp) (by simp) (by simp [hl1, hl2])
  rw [show ([l1, l2] : List (List ByteArray)).length = 2 from rfl] at hcc
  refine hcc.mono ?_
  rintro e w5 ⟨v, rfl, hR, hB⟩
  have HR := Aside0.mk (Kd.R_lower hR hB1.size)
  have HB := Aside0.mk (below_then hB1 hB1.size hB)
  clear hR hB hC hb1 hB1 hcc
  go_wp2_with (fail)
  go_ret
  exact ⟨_, rfl, by have := HR.out; simpa using this, HB.out⟩
end Go.Proofs.Ytdpncghnlkgkdaa.H
set_option linter.unusedVariables false
set_option linter.unusedSimpArgs false
namespace Go.Proofs
open Go.RowKit Go.Sort Go.Shelf
shelf_lay Lays.n189 Nm 189 at Try as Try.lays189
shelf_lay Lays.n190 Nm 190 at Try as Try.lays190
shelf_lay Lays.n194 Nm 194 at Try as Try.lays194
shelf_lay Lays2.n20 Nm2 20 at Try as Try.lays20
theorem Ytdpncghnlkgkdaa.sortS (blk off cap : Nat) (zs : List (List UInt8)) (w : World) (hH : Holds encStr w blk off zs.toArray) (hblk : blk < w.heap.size) (hsz : zs.length < 4611686018427387904) :
    Calls Try.prog 65 #[.slice (some ⟨blk, off, none⟩) zs.length cap] w fun e w' =>
      e = .returned (.tuple #[]) ∧ ∃ n os, w' = grow (putRow encStr (Sort.ahead w n) blk off (zs.mergeSort fun x y => decide (x ≤ y)).toArray) os := Any.slices_Sort_string Try.lays190 blk off cap zs w hH hblk hsz
theorem Ytdpncghnlkgkdaa.sortS_none (p : Option Addr) (cap : Nat) (w : World) : Calls Try.prog 65 #[.slice p 0 cap] w fun e w' => e = .returned (.tuple #[]) ∧ w' = w := Any.slices_Sort_string_none Try.lays190 p cap w
theorem Ytdpncghnlkgkdaa.sortI (blk off cap : Nat) (zs : List Int) (w : World) (hH : Holds (Value.int .i64) w blk off zs.toArray) (hblk : blk < w.heap.size) (hsz : zs.length < 4611686018427387904) :
    Calls Try.prog 41 #[.slice (some ⟨blk, off, none⟩) zs.length cap] w fun e w' =>
      e = .returned (.tuple #[]) ∧ ∃ n os, w' = grow (putRow (Value.int .i64) (Sort.ahead w n) blk off (zs.mergeSort fun x y => decide (x ≤ y)).toArray) os := Any.slices_Sort_int Try.lays189 blk off cap zs w hH hblk hsz
theorem Ytdpncghnlkgkdaa.sortI_none (p : Option Addr) (cap : Nat) (w : World) : Calls Try.prog 41 #[.slice p 0 cap] w fun e w' => e = .returned (.tuple #[]) ∧ w' = w := Any.slices_Sort_int_none Try.lays189 p cap w
theorem Ytdpncghnlkgkdaa.compactS (blk off cap : Nat) (zs : List (List UInt8)) (w : World) (hH : Holds encStr w blk off zs.toArray) (hsz : zs.length ≤ 9223372036854775807) (hcap : zs.length ≤ cap) :
    Calls Try.prog 66 #[.slice (some ⟨blk, off, none⟩) zs.length cap] w fun e w' => e = .returned (.slice (some ⟨blk, off, none⟩) (Lib.compact zs).length cap) ∧ ∃ q, w' = putRow encStr (Sort.ahead w q) blk off (Lib.compact zs ++ List.replicate (zs.length - (Lib.compact zs).length) []).toArray := Any.slices_Compact_string Try.lays194 blk off cap zs w hH hsz hcap
theorem Ytdpncghnlkgkdaa.compactS_none (p : Option Addr) (cap : Nat) (w : World) : Calls Try.prog 66 #[.slice p 0 cap] w fun e w' => e = .returned (.slice p 0 cap) ∧ w' = w := Any.slices_Compact_string_empty Try.lays194 p cap w
theorem Ytdpncghnlkgkdaa.compactI (blk off cap : Nat) (zs : List Int) (w : World) (hH : Holds (Value.int .i64) w blk off zs.toArray) (hsz : zs.length ≤ 9223372036854775807) (hcap : zs.length ≤ cap) :
    Calls Try.prog 42 #[.slice (some ⟨blk, off, none⟩) zs.length cap] w fun e w' => e = .returned (.slice (some ⟨blk, off, none⟩) (Lib.compact zs).length cap) ∧ ∃ q, w' = putRow (Value.int .i64) (Sort.ahead w q) blk off (Lib.compact zs ++ List.replicate (zs.length - (Lib.compact zs).length) 0).toArray := Any.slices_Compact_int Try.lays20 blk off cap zs w hH hsz hcap
theorem Ytdpncghnlkgkdaa.compactI_none (p : Option Addr) (cap : Nat) (w : World) : Calls Try.prog 42 #[.slice p 0 cap] w fun e w' => e = .returned (.slice p 0 cap) ∧ w' = w := Any.slices_Compact_int_empty Try.lays20 p cap w
end Go.Proofs
namespace Go.Proofs.Ytdpncghnlkgkdaa.H
open Go.Sort Go.RowKit Go.Proofs.YtdpncghnlkgkdaaW.PrintWords Go.Proofs.YtdpncghnlkgkdaaW.PrintLast Go.Proofs.YtdpncghnlkgkdaaW.PrintMore Go.Proofs.Ytdpncghnlkgkdaa.G

/-! ### What Compact leaves of a sorted list -/
theorem compact_len {α : Type} [Inhabited α] [DecidableEq α] (zs : List α) : (Lib.compact zs).length = ((List.range zs.length).filter (Lib.keeps zs.toArray)).length := by
  unfold Lib.compact Lib.compactUpTo
  rw [List.length_map]
theorem compact_le {α : Type} [Inhabited α] [DecidableEq α] (zs : List α) : (Lib.compact zs).length ≤ zs.length := by
  rw [compact_len]
  exact Nat.le_trans (List.length_filter_le _ _) (by simp)
theorem get_keeps {α : Type} [Inhabited α] [DecidableEq α] {zs : List α} {j : Nat} (hj : j + 1 < zs.length) : Lib.keeps zs.toArray (j + 1) = decide (zs[j + 1] ≠ zs[j]) := by
  unfold Lib.keeps
  have h1 : zs.toArray[j + 1]! = zs[j + 1] := by simp [hj]
  have h2 : zs.toArray[j + 1 - 1]! = zs[j] := by simp [show j < zs.length by omega]
  rw [h1, h2]
  simp
theorem compact_nodup {α : Type} [Inhabited α] [DecidableEq α] {le : α → α → Prop} (hanti : ∀ a b, le a b → le b a → a = b) {zs : List α} (hs : zs.Pairwise le) : (Lib.compact zs).length = zs.length ↔ zs.Nodup := by
  rw [compact_len]
  have hrw : ((List.range zs.length).filter (Lib.keeps zs.toArray)).length = zs.length ↔ ∀ j, j + 1 < zs.length → Lib.keeps zs.toArray (j + 1) = true := by
    have : ((List.range zs.length).filter (Lib.keeps zs.toArray)).length = (List.range zs.length).length ↔ ∀ j ∈ List.range zs.length, Lib.keeps zs.toArray j = true := List.length_filter_eq_length_iff
    rw [List.length_range] at this
    rw [this]
    constructor
    · intro h j hj
      exact h (j + 1) (List.mem_range.2 hj)
    · intro h j hj
      cases j with
      | zero => simp [Lib.keeps]
      | succ j => exact h j (List.mem_range.1 hj)
  rw [hrw]
  constructor
  · intro h
    rw [List.nodup_iff_pairwise_ne, List.pairwise_iff_getElem]
    intro i j hi hj hij e
    have h1 := h i (by omega)
    rw [get_keeps (by omega), decide_eq_true_eq] at h1
    have h2 := List.pairwise_iff_getElem.1 hs
    by_cases e2 : i + 1 = j
    · subst e2
      exact h1 e.symm
    · have a1 := h2 i (i + 1) hi (by omega) (by omega)
      have a2 := h2 (i + 1) j (by omega) hj (by omega)
      rw [← e] at a2
      exact h1 (hanti _ _ a2 a1)
  · intro h j hj
    rw [get_keeps hj, decide_eq_true_eq]
    rw [List.nodup_iff_pairwise_ne, List.pairwise_iff_getElem] at h
    exact fun e => h j (j + 1) (by omega) hj (by omega) e.symm
def bytesOf (l : List ByteArray) : List (List UInt8) := l.map (·.data.toList)
theorem bytesOf_len (l : List ByteArray) : (bytesOf l).length = l.length := by simp [bytesOf]
theorem bytesOf_enc (l : List ByteArray) : (bytesOf l).map encStr = encs Value.string l := by
  simp only [bytesOf, encs, List.map_map]
  rfl
theorem bytesOf_nodup (l : List ByteArray) : (bytesOf l).Nodup ↔ l.Nodup := by
  unfold bytesOf
  induction l with
  | nil => simp
  | cons x r ih =>
    rw [List.map_cons, List.nodup_cons, List.nodup_cons, ih]
    have : x.data.toList ∈ List.map (fun y : ByteArray => y.data.toList) r ↔ x ∈ r := by
      rw [List.mem_map]
      constructor
      · rintro ⟨y, hy, e⟩
        have : y = x := by
          cases y; cases x
          simp only [ByteArray.mk.injEq]
          exact Array.toList_inj.1 e
        exact this ▸ hy
      · intro h
        exact ⟨x, h, rfl⟩
    rw [this]
theorem bytes_sorted (ss : List (List UInt8)) : (ss.mergeSort fun x y => decide (x ≤ y)).Pairwise (· ≤ ·) := by
  have h := List.pairwise_mergeSort (le := fun (x y : List UInt8) => decide (x ≤ y)) (by intro a b c h1 h2; simp only [decide_eq_true_eq] at *; exact List.le_trans h1 h2) (by intro a b; simp only [Bool.or_eq_true, decide_eq_true_eq]; exact List.le_total a b) ss
  exact h.imp (fun h => by simpa using h)
theorem unlike_sorted (l : List ByteArray) : ((Lib.compact ((bytesOf l).mergeSort fun x y => decide (x ≤ y))).length = l.length) ↔ l.Nodup := by
  have h := compact_nodup (le := fun (x y : List UInt8) => x ≤ y) (fun a b h1 h2 => List.le_antisymm h1 h2) (bytes_sorted (bytesOf l))
  rw [List.length_mergeSort, bytesOf_len] at h
  rw [h, (List.mergeSort_perm _ _).nodup_iff, bytesOf_nodup]

set_option maxHeartbeats 1000000 in
set_option maxRecDepth 100000 in
theorem clone_calls (A : Option Addr) (c : Nat) (l : List ByteArray) (w : World) (hr : Kd.C Kd.string w A l.length l) (hl : l.length ≤ 1000000) :
    Calls Try.prog 52 #[.slice A l.length c] w fun e w' => ∃ v, e = .returned v ∧ Kd.R Kd.string 9 w' w.heap.size (fun _ => True) v l ∧ Below w.heap.size w w' := by
  have q22 : ∀ (w : World) (a : Option Addr) (n c n' c' : Nat), (binOp .eql 22 (.slice a n c) (.slice none n' c')).run Try.prog w = .ok (.bool a.isNone) w := fun w a n c n' c' => Lib.run_eql_slice_nil w _ _ a n c n' c' Try.underlying22
  cases A with
  | none =>
    obtain rfl : l = [] := by
      cases l with
      | nil => rfl
      | cons x r => obtain ⟨_, h, _⟩ := hr.2.2 (by simp); cases h
    go_enter Try.func52, Try.ntmps52
    go_wp2_with (fail)
    go_ret
    exact ⟨_, rfl, Kd.R_nil _ _ _ _ _, Below.refl _ _⟩
  | some ad =>
    have HR0 : Aside0 (Kd.R Kd.string 9 (w.alloc (.cells #[] 9)) w.heap.size (fun _ => True) (.slice (some ⟨w.heap.size, 0, none⟩) 0 0) []) := by
      have h2 := World.ownsRow_lit (base := w.heap.size) (e := 9) (size := 1) w #[] 0 (by omega) (by unfold maxLen; omega) rfl
      exact ⟨Kd.R_of_own (enc := Value.string) h2 (fun _ _ => trivial)⟩
    have hB := Aside0.mk (below_alloc (Below.refl w.heap.size w) (.cells #[] 9))
    have hC := Aside0.mk (Kd.C_alloc hr (.cells #[] 9))
    clear hr
    go_enter Try.func52, Try.ntmps52
    go_wp2_with (at_builtin; refine Kd.R_append_rows Kd.string (w0 := w) w.heap.size rfl (.tmp 5) (.tmp 6) 22 9 (.string ⟨#[]⟩) 16 rfl Try.underlying22 info9 rfl (by decide) (by omega) _ [] l (some ad) l.length c (fun _ => True) (fun _ => False) rfl rfl HR0.out hC.out (fun _ _ h => h) (fun _ h => h.elim) (fun _ _ => trivial) hB.out hB.out.size (by simp; omega) ?_)
    intro v1 w1 hR hB1 hg hat
    have HR1 := Aside0.mk hR
    have HB1 := Aside0.mk hB1
    clear hR hB1 hg hat
    go_wp2_with (fail)
    go_ret
    exact ⟨_, rfl, HR1.out, HB1.out⟩
theorem grow_none (w : World) : w = grow w #[] := by simp [grow]
set_option maxHeartbeats 2000000 in
set_option maxRecDepth 100000 in
theorem unlike_calls (A : Option Addr) (c : Nat) (l : List ByteArray) (w : World) (hr : Kd.C Kd.string w A l.length l) (hl : l.length ≤ 1000000) :
    Calls Try.prog 53 #[.slice A l.length c] w fun e w' => e = .returned (.bool (unlikeB l)) ∧ Below w.heap.size w w' := by
  obtain ⟨b, hb⟩ : ∃ b, b = unlikeB l := ⟨_, rfl⟩
  rw [← hb]
  have HBL := Aside0.mk hb
  clear hb
  go_enter Try.func53, Try.ntmps53
  go_wp2_with (fail)
  refine (clone_calls A c l w hr hl).mono ?_
  rintro e w1 ⟨v1, rfl, hR1, hB1⟩
  by_cases h0 : l.length = 0
  · obtain rfl : l = [] := List.eq_nil_of_length_eq_zero h0
    obtain rfl : b = true := by rw [HBL.out]; rfl
    obtain ⟨A1, c1, rfl⟩ := Kd.R_slice hR1
    have HB1 := Aside0.mk hB1
    have hC1 := (Kd.R_reads' hR1).2.2
    simp only [List.length_nil] at hR1 hC1 ⊢
    clear hR1 hB1 h0 hr hl
    go_wp2_with (fail)
    refine (sortS_none _ _ _).mono ?_
    rintro e w2 ⟨rfl, rfl⟩
    go_wp2_with (fail)
    refine (clone_calls A1 c1 [] _ hC1 (by simp)).mono ?_
    rintro e w3 ⟨v3, rfl, hR3, hB3⟩
    obtain ⟨A3, c3, rfl⟩ := Kd.R_slice hR3
    have HB3 := Aside0.mk (below_then HB1.out HB1.out.size hB3)
    simp only [List.length_nil] at hR3 ⊢
    clear hR3 hB3 hC1
    go_wp2_with (fail)
    refine (compactS_none _ _ _).mono ?_
    rintro e w4 ⟨rfl, rfl⟩
    go_wp2_with (fail)
    go_ret
    exact ⟨rfl, HB3.out⟩
  · have ho := Kd.own_of_R hR1
    obtain ⟨_, h | ⟨g, cap, cur, rfl, hbg, hcur, hle, hcm, hsz, htk⟩⟩ := ho
    · exact absurd h.2 h0
    · have HB1 := Aside0.mk hB1
      have hH := holds_of_block (ss := bytesOf l) hcur (by rw [bytesOf_len, bytesOf_enc]; simpa using htk)
      have hlt : g < w1.heap.size := by
        rcases Nat.lt_or_ge g w1.heap.size with h | h
        · exact h
        · rw [Array.getElem?_eq_none h] at hcur; cases hcur
      have HLS : Aside0 (∀ ts : List (List UInt8), ts = (bytesOf l).mergeSort (fun x y => decide (x ≤ y)) → ts.length = l.length) := ⟨fun ts e => by rw [e, List.length_mergeSort, bytesOf_len]⟩
      have hs := sortS g 0 cap (bytesOf l) w1 hH hlt (by rw [bytesOf_len]; omega)
      rw [bytesOf_len] at hs
      have hs' := Aside0.mk hs
      have HC := Aside0.mk hcur
      have HSZ := Aside0.mk hsz
      have hcm2 := Aside0.mk hcm
      clear hs hH hR1 hB1 htk hcur hsz hr hcm
      go_wp2_with (fail)
      refine hs'.out.mono ?_
      rintro e w2 ⟨rfl, n2, os2, hw2⟩
      obtain ⟨ts, hts⟩ : ∃ ts, ts = (bytesOf l).mergeSort (fun x y => decide (x ≤ y)) := ⟨_, rfl⟩
      rw [← hts] at hw2
      have htl := HLS.out ts hts
      have own2 : w2.ownsRow w.heap.size 9 1 (.slice (some ⟨g, 0, none⟩) l.length cap) l.length (ts.map encStr) := by
        rw [hw2]
        have := ownsRow_sorted (w := w1) (os := os2) (n := n2) (base := w.heap.size) (ss := bytesOf l) (ts := ts) (by rw [htl, bytesOf_len]) hbg HC.out (by rw [bytesOf_len]; exact hle) hcm2.out HSZ.out
        rw [bytesOf_len] at this
        exact this
      have hg2 : w1.grownBy w2 (some g) := by rw [hw2]; exact grownBy_sorted _
      have HB2 := Aside0.mk (HB1.out.grown hg2 HB1.out.size (fun q e => by injection e with e; omega))
      obtain ⟨l2, hl2⟩ : ∃ l2 : List ByteArray, l2 = ts.map (fun b => ⟨b.toArray⟩) := ⟨_, rfl⟩
      have hll : l2.length = l.length := by rw [hl2, List.length_map, htl]
      have he2 : encs Value.string l2 = ts.map encStr := by rw [hl2]; simp only [encs, List.map_map]; rfl
      have hb2 : bytesOf l2 = ts := by rw [hl2]; unfold bytesOf; rw [List.map_map]; exact List.map_id'' (fun _ => rfl) _
      have hR2 : Kd.R Kd.string 9 w2 w.heap.size (fun _ => True) (.slice (some ⟨g, 0, none⟩) l.length cap) l2 := Kd.R_of_own (enc := Value.string) (by rw [hll, he2]; exact own2) (fun _ _ => trivial)
      have hC2 := Aside0.mk (Kd.R_reads' hR2).2.2
      have HU := Aside0.mk (unlike_sorted l)
      rw [← hts] at HU
      have HLL := Aside0.mk hll
      have HBB := Aside0.mk hb2
      have hll2 : l2.length ≤ 1000000 := by omega
      clear hw2 own2 hg2 hR2 he2 hl2 hts htl hll hb2
      go_wp2_with (fail)
      have hc := clone_calls (some ⟨g, 0, none⟩) cap l2 w2 hC2.out hll2
      rw [HLL.out] at hc
      refine hc.mono ?_
      rintro e w3 ⟨v3, rfl, hR3, hB3⟩
      have ho3 := Kd.own_of_R hR3
      obtain ⟨_, h | ⟨g3, cap3, cur3, rfl, hbg3, hcur3, hle3, hcm3, hsz3, htk3⟩⟩ := ho3
      · exact absurd h.2 (by rw [HLL.out]; exact h0)
      · have hH3 := holds_of_block (ss := bytesOf l2) hcur3 (by rw [bytesOf_len, bytesOf_enc]; simpa using htk3)
        have hcs := compactS g3 0 cap3 (bytesOf l2) w3 hH3 (by rw [bytesOf_len]; omega) (by rw [bytesOf_len]; exact hle3)
        rw [bytesOf_len, HBB.out, HLL.out] at hcs
        rw [HLL.out]
        have HCS := Aside0.mk hcs
        have HB3 := Aside0.mk (below_then HB2.out HB2.out.size hB3)
        have hg3 : w.heap.size ≤ g3 := Nat.le_trans HB2.out.size hbg3
        clear hcs hH3 hR3 hB3 hcur3 hle3 hsz3 htk3 hc
        go_wp2_with (fail)
        refine HCS.out.mono ?_
        rintro e w4 ⟨rfl, q4, hw4⟩
        have hg4 : w3.grownBy w4 (some g3) := by
          rw [hw4, grow_none (putRow _ _ _ _ _)]
          exact grownBy_sorted _
        have HB4 := Aside0.mk (HB3.out.grown hg4 HB3.out.size (fun q e => by injection e with e; omega))
        obtain ⟨m, hm⟩ : ∃ m, m = (Lib.compact ts).length := ⟨_, rfl⟩
        rw [← hm] at HU ⊢
        clear hw4 hg4 hm
        go_wp2_with (fail)
        go_ret
        refine ⟨?_, HB4.out⟩
        rw [HBL.out]
        unfold unlikeB
        have e : ((m : Int) == (l.length : Int)) = decide l.Nodup := by
          rw [Bool.eq_iff_iff, decide_eq_true_eq, ← HU.out, beq_iff_eq]
          exact Int.ofNat_inj
        exact congrArg (fun b => Ending.returned (.bool b)) e
end Go.Proofs.Ytdpncghnlkgkdaa.H
set_option linter.unusedVariables false
set_option linter.unusedSimpArgs false
namespace Go.Proofs.Ytdpncghnlkgkdaa.H
open Go.RowKit Go.Proofs.YtdpncghnlkgkdaaW.PrintWords Go.Proofs.YtdpncghnlkgkdaaW.PrintLast Go.Proofs.YtdpncghnlkgkdaaW.PrintMore Go.Proofs.Ytdpncghnlkgkdaa.G

theorem bytes_beq (a b : ByteArray) : (a.toList == b.toList) = decide (a = b) := by
  rw [ByteArray.toList_eq, ByteArray.toList_eq, Bool.eq_iff_iff, beq_iff_eq, decide_eq_true_eq]
  exact ⟨fun h => Go.WideShapes.bytes_inj h, fun h => by rw [h]⟩
def shiftP (k : Nat) (p : Int) : Int := if p < 0 then -1 else p + k
theorem placeP_cons (x : ByteArray) (r : List ByteArray) (s : ByteArray) : placeP (x :: r) s = if x = s then 0 else shiftP 1 (placeP r s) := rfl
theorem shiftP_zero {p : Int} (h : -1 ≤ p) : shiftP 0 p = p := by unfold shiftP; split <;> omega
theorem placeP_lo (s : ByteArray) : ∀ l, -1 ≤ placeP l s
  | [] => by simp [placeP]
  | x :: r => by
    have := placeP_lo s r
    rw [placeP_cons]
    unfold shiftP
    split
    · omega
    · split <;> omega
theorem placeP_hi (s : ByteArray) : ∀ l : List ByteArray, placeP l s < l.length
  | [] => by simp [placeP]
  | x :: r => by
    have := placeP_hi s r
    rw [placeP_cons, List.length_cons]
    unfold shiftP
    split
    · omega
    · split <;> omega
theorem shiftP_shift (k : Nat) (p : Int) : shiftP k (shiftP 1 p) = shiftP (k + 1) p := by
  unfold shiftP
  by_cases h : p < 0
  · rw [if_pos h]
    simp [h]
  · rw [if_neg h, if_neg h, if_neg (by omega)]
    omega
theorem place_hit {l : List ByteArray} {s : ByteArray} {k : Nat} (hk : k < l.length) (h : placeP l s = shiftP k (placeP (l.drop k) s)) (e : l[k] = s) : placeP l s = k := by
  rw [h, List.drop_eq_getElem_cons hk, placeP_cons, if_pos e]
  unfold shiftP
  rw [if_neg (by omega)]
  omega
theorem place_miss {l : List ByteArray} {s : ByteArray} {k : Nat} (hk : k < l.length) (h : placeP l s = shiftP k (placeP (l.drop k) s)) (e : l[k] ≠ s) : placeP l s = shiftP (k + 1) (placeP (l.drop (k + 1)) s) := by
  rw [h, List.drop_eq_getElem_cons hk, placeP_cons, if_neg e, shiftP_shift]
theorem place_none {l : List ByteArray} {s : ByteArray} (h : placeP l s = shiftP l.length (placeP (l.drop l.length) s)) : placeP l s = -1 := by
  rw [h, List.drop_length]
  rfl
theorem rdOf_get {l : List ByteArray} {k : Nat} (hk : k < l.length) : rdOf ByteArray.empty l (k : Int) = l[k] := by
  unfold rdOf
  rw [Int.toNat_natCast, List.getD_eq_getElem?_getD, List.getElem?_eq_getElem hk]
  rfl

set_option maxHeartbeats 1000000 in
set_option maxRecDepth 100000 in
theorem index_calls (A : Option Addr) (c : Nat) (l : List ByteArray) (s : ByteArray) (w : World) (hr : Kd.C Kd.string w A l.length l) :
    Calls Try.prog 33 #[.slice A l.length c, .string s] w fun e w' => e = .returned (.int .i64 (placeP l s)) ∧ w' = w := by
  have HR := Aside0.mk hr
  have hmx := Kd.C_max hr
  have HP0 := Aside0.mk (show placeP l s = shiftP 0 (placeP (l.drop 0) s) from by rw [List.drop_zero, shiftP_zero (placeP_lo s l)])
  obtain ⟨pl, hpl⟩ : ∃ pl, pl = placeP l s := ⟨_, rfl⟩
  rw [← hpl] at HP0 ⊢
  have HPL := Aside0.mk hpl
  clear hr hpl
  go_enter Try.func33, Try.ntmps33
  go_wp2_with (fail)
  go_loop [8] (fun v8 => ∃ k : Nat, k ≤ l.length ∧ v8 = .int .i64 k ∧ Aside0 (pl = shiftP k (placeP (l.drop k) s))) (fun v8 => l.length - (intOf v8).toNat)
  case atStart => exact ⟨0, Nat.zero_le _, rfl, HP0⟩
  case round =>
    obtain ⟨k, hk, rfl, HP⟩ := hrel
    by_cases hlt : k < l.length
    · obtain ⟨ad, rfl, hx⟩ := Kd.at_string HR.out (k : Int) (by omega) (by omega)
      rw [rdOf_get hlt, Int.toNat_natCast] at hx
      have HH : Aside0 (l[k] = s → pl = k) := ⟨fun e => by rw [HPL.out]; exact place_hit hlt (by rw [← HPL.out]; exact HP.out) e⟩
      have HM : Aside0 (l[k] ≠ s → pl = shiftP (k + 1) (placeP (l.drop (k + 1)) s)) := ⟨fun e => by rw [HPL.out]; exact place_miss hlt (by rw [← HPL.out]; exact HP.out) e⟩
      generalize l[k] = x at *
      by_cases e : x = s
      · obtain rfl := HH.out e
        have hb : (s.toList == x.toList) = true := by rw [bytes_beq]; simp [e]
        clear e
        go_wp2_with (fail)
        go_ret
        exact ⟨rfl, rfl⟩
      · have hb : (s.toList == x.toList) = false := by rw [bytes_beq]; simp; exact fun h => e h.symm
        have HM2 := Aside0.mk (HM.out e)
        clear e
        go_wp2_with (fail)
        go_round
        case rel => exact ⟨k + 1, hlt, by go_num, HM2⟩
        case measure => simp [intOf]; omega
    · obtain rfl : k = l.length := by omega
      have e : pl = -1 := by rw [HPL.out]; exact place_none (by rw [← HPL.out]; exact HP.out)
      subst e
      go_wp2_with (fail)
      go_ret
      exact ⟨rfl, rfl⟩
theorem name68 (x : S68) (s : ByteArray) (B : Nat) (w : World) (hb : w.heap[B]? = some (.cells #[.string s] 9 (0, 0))) :
    Calls Try.prog 36 #[.agg #[.string x.f0, .int .i64 x.f1], .pointer (some ⟨B, 0, none⟩)] w fun e w' => e = .returned (.bool (decide (x.f0 = s))) ∧ Below w.heap.size w w' := by
  have z : w.cell? ⟨B, 0, none⟩ = some (.string s) := (blk_cell hb 0).trans rfl
  have hB : B < w.heap.size := blk_lt hb
  have hq := bytes_beq x.f0 s
  generalize x.f0 = n at *
  have HQ := Aside0.mk hq
  obtain ⟨d, hd⟩ : ∃ d, d = decide (n = s) := ⟨_, rfl⟩
  rw [← hd] at hq ⊢
  clear hd HQ
  go_enter Try.func36, Try.ntmps36
  go_wp2_with (fail)
  go_ret
  exact ⟨rfl, below_alloc (Below.refl _ _) _⟩
theorem name40 (v1 v2 v4 : Value) (n : ByteArray) (b3 : Bool) (s : ByteArray) (B : Nat) (w : World) (hb : w.heap[B]? = some (.cells #[.string s] 9 (0, 0))) (h1 : ∃ A n c, v1 = .slice A n c) (h2 : ∃ A n c, v2 = .slice A n c) (h4 : ∃ A n c, v4 = .slice A n c) :
    Calls Try.prog 38 #[.agg #[.string n, v1, v2, .bool b3, v4], .pointer (some ⟨B, 0, none⟩)] w fun e w' => e = .returned (.bool (decide (n = s))) ∧ Below w.heap.size w w' := by
  obtain ⟨A1, n1, c1, rfl⟩ := h1
  obtain ⟨A2, n2, c2, rfl⟩ := h2
  obtain ⟨A4, n4, c4, rfl⟩ := h4
  have z : w.cell? ⟨B, 0, none⟩ = some (.string s) := (blk_cell hb 0).trans rfl
  have hB : B < w.heap.size := blk_lt hb
  have hq := bytes_beq n s
  obtain ⟨d, hd⟩ : ∃ d, d = decide (n = s) := ⟨_, rfl⟩
  rw [← hd] at hq ⊢
  clear hd
  go_enter Try.func38, Try.ntmps38
  go_wp2_with (fail)
  go_ret
  exact ⟨rfl, below_alloc (Below.refl _ _) _⟩

theorem rd68_f0 {l : List S68} {k : Nat} (hk : k < l.length) : (l.map (·.f0))[k]'(by simpa using hk) = (rd_T68 l (k : Int)).f0 := by
  unfold rd_T68
  rw [Int.toNat_natCast, List.getD_eq_getElem?_getD, List.getElem?_eq_getElem hk]
  simp
set_option maxHeartbeats 1000000 in
set_option maxRecDepth 100000 in
theorem ixarr_calls (A : Option Addr) (c : Nat) (l : List S68) (s : ByteArray) (B : Nat) (w : World) (hr : Kd.C k68 w A l.length l) (hb : w.heap[B]? = some (.cells #[.string s] 9 (0, 0))) :
    Calls Try.prog 35 #[.slice A l.length c, .func (.func 36) #[] #[.pointer (some ⟨B, 0, none⟩)]] w fun e w' => e = .returned (.int .i64 (placeP (l.map (·.f0)) s)) ∧ Below w.heap.size w w' := by
  have HR := Aside0.mk hr
  have HB := Aside0.mk hb
  have hmx := Kd.C_max hr
  have eg := enters_of Try.func36 (by kernel_rfl) rfl
  have HP0 := Aside0.mk (show placeP (l.map (·.f0)) s = shiftP 0 (placeP ((l.map (·.f0)).drop 0) s) from by rw [List.drop_zero, shiftP_zero (placeP_lo s _)])
  obtain ⟨pl, hpl⟩ : ∃ pl, pl = placeP (l.map (·.f0)) s := ⟨_, rfl⟩
  rw [← hpl] at HP0 ⊢
  have HPL := Aside0.mk hpl
  clear hr hpl hb
  go_enter Try.func35, Try.ntmps35
  go_wp2_with (fail)
  go_loopw [8] (fun v8 wr => ∃ k : Nat, k ≤ l.length ∧ v8 = .int .i64 k ∧ Aside0 (pl = shiftP k (placeP ((l.map (·.f0)).drop k) s)) ∧ Aside0 (Below w.heap.size w wr)) (fun v8 _ => l.length - (intOf v8).toNat)
  case atStart => exact ⟨0, Nat.zero_le _, rfl, HP0, ⟨Below.refl _ _⟩⟩
  case round =>
    obtain ⟨k, hk, rfl, HP, HW⟩ := hrel
    obtain ⟨wo, rfl⟩ : ∃ wo : World, wo = wr := ⟨_, rfl⟩
    by_cases hlt : k < l.length
    · obtain ⟨ad, rfl, x0, x1⟩ := at_T68 (Kd.C_below HR.out HW.out) (k : Int) (by omega) (by omega)
      have HH : Aside0 ((rd_T68 l (k : Int)).f0 = s → pl = k) := ⟨fun e => by rw [HPL.out]; exact place_hit (by simpa using hlt) (by rw [← HPL.out]; exact HP.out) (by rw [rd68_f0 hlt]; exact e)⟩
      have HM : Aside0 ((rd_T68 l (k : Int)).f0 ≠ s → pl = shiftP (k + 1) (placeP ((l.map (·.f0)).drop (k + 1)) s)) := ⟨fun e => by rw [HPL.out]; exact place_miss (by simpa using hlt) (by rw [← HPL.out]; exact HP.out) (by rw [rd68_f0 hlt]; exact e)⟩
      generalize rd_T68 l (k : Int) = x at *
      rw [Int.toNat_natCast] at x0 x1
      have hcl := Aside0.mk (name68 x s B wo (blk_below HB.out HW.out))
      go_wp2_with (fail)
      refine hcl.out.mono ?_
      rintro e w1 ⟨rfl, hB1⟩
      have HW1 := Aside0.mk (below_then HW.out HW.out.size hB1)
      clear hB1 hcl x0 x1
      by_cases e : x.f0 = s
      · obtain rfl := HH.out e
        have hd : decide (x.f0 = s) = true := by simp [e]
        rw [hd]
        clear e hd
        go_wp2_with (fail)
        go_ret
        exact ⟨rfl, HW1.out⟩
      · have HM2 := Aside0.mk (HM.out e)
        have hd : decide (x.f0 = s) = false := by simp [e]
        rw [hd]
        clear e hd
        go_wp2_with (fail)
        go_roundw
        case rel => exact ⟨k + 1, hlt, by go_num, HM2, HW1⟩
        case measure => simp [intOf]; omega
    · obtain rfl : k = l.length := by omega
      have e : pl = -1 := by
        rw [HPL.out]
        have h := HP.out
        rw [HPL.out] at h
        have hl : l.length = (l.map (·.f0)).length := by simp
        rw [hl] at h
        exact place_none h
      subst e
      go_wp2_with (fail)
      go_ret
      exact ⟨rfl, HW.out⟩

theorem rd40_f0 {l : List S40} {k : Nat} (hk : k < l.length) : (l.map (·.f0))[k]'(by simpa using hk) = (rd_T40 l (k : Int)).f0 := by
  unfold rd_T40
  rw [Int.toNat_natCast, List.getD_eq_getElem?_getD, List.getElem?_eq_getElem hk]
  simp
set_option maxHeartbeats 1000000 in
set_option maxRecDepth 100000 in
theorem ixfun_calls (A : Option Addr) (c : Nat) (l : List S40) (s : ByteArray) (B : Nat) (w : World) (hr : Kd.C k40 w A l.length l) (hb : w.heap[B]? = some (.cells #[.string s] 9 (0, 0))) :
    Calls Try.prog 37 #[.slice A l.length c, .func (.func 38) #[] #[.pointer (some ⟨B, 0, none⟩)]] w fun e w' => e = .returned (.int .i64 (placeP (l.map (·.f0)) s)) ∧ Below w.heap.size w w' := by
  have HR := Aside0.mk hr
  have HB := Aside0.mk hb
  have hmx := Kd.C_max hr
  have eg := enters_of Try.func38 (by kernel_rfl) rfl
  have HP0 := Aside0.mk (show placeP (l.map (·.f0)) s = shiftP 0 (placeP ((l.map (·.f0)).drop 0) s) from by rw [List.drop_zero, shiftP_zero (placeP_lo s _)])
  obtain ⟨pl, hpl⟩ : ∃ pl, pl = placeP (l.map (·.f0)) s := ⟨_, rfl⟩
  rw [← hpl] at HP0 ⊢
  have HPL := Aside0.mk hpl
  clear hr hpl hb
  go_enter Try.func37, Try.ntmps37
  go_wp2_with (fail)
  go_loopw [8] (fun v8 wr => ∃ k : Nat, k ≤ l.length ∧ v8 = .int .i64 k ∧ Aside0 (pl = shiftP k (placeP ((l.map (·.f0)).drop k) s)) ∧ Aside0 (Below w.heap.size w wr)) (fun v8 _ => l.length - (intOf v8).toNat)
  case atStart => exact ⟨0, Nat.zero_le _, rfl, HP0, ⟨Below.refl _ _⟩⟩
  case round =>
    obtain ⟨k, hk, rfl, HP, HW⟩ := hrel
    obtain ⟨wo, rfl⟩ : ∃ wo : World, wo = wr := ⟨_, rfl⟩
    by_cases hlt : k < l.length
    · obtain ⟨ad, A1, c1, A2, c2, A4, c4, rfl, x0, x1, x2, x3, x4, _⟩ := at_T40 (Kd.C_below HR.out HW.out) (k : Int) (by omega) (by omega)
      have HH : Aside0 ((rd_T40 l (k : Int)).f0 = s → pl = k) := ⟨fun e => by rw [HPL.out]; exact place_hit (by simpa using hlt) (by rw [← HPL.out]; exact HP.out) (by rw [rd40_f0 hlt]; exact e)⟩
      have HM : Aside0 ((rd_T40 l (k : Int)).f0 ≠ s → pl = shiftP (k + 1) (placeP ((l.map (·.f0)).drop (k + 1)) s)) := ⟨fun e => by rw [HPL.out]; exact place_miss (by simpa using hlt) (by rw [← HPL.out]; exact HP.out) (by rw [rd40_f0 hlt]; exact e)⟩
      generalize rd_T40 l (k : Int) = x at *
      rw [Int.toNat_natCast] at x0 x1 x2 x3 x4
      have hcl := Aside0.mk (name40 (.slice A1 x.f1.length c1) (.slice A2 x.f2.length c2) (.slice A4 x.f4.length c4) x.f0 x.f3 s B wo (blk_below HB.out HW.out) ⟨_, _, _, rfl⟩ ⟨_, _, _, rfl⟩ ⟨_, _, _, rfl⟩)
      go_wp2_with (fail)
      refine hcl.out.mono ?_
      rintro e w1 ⟨rfl, hB1⟩
      have HW1 := Aside0.mk (below_then HW.out HW.out.size hB1)
      clear hB1 hcl x0 x1 x2 x3 x4
      by_cases e : x.f0 = s
      · obtain rfl := HH.out e
        have hd : decide (x.f0 = s) = true := by simp [e]
        rw [hd]
        clear e hd
        go_wp2_with (fail)
        go_ret
        exact ⟨rfl, HW1.out⟩
      · have HM2 := Aside0.mk (HM.out e)
        have hd : decide (x.f0 = s) = false := by simp [e]
        rw [hd]
        clear e hd
        go_wp2_with (fail)
        go_roundw
        case rel => exact ⟨k + 1, hlt, by go_num, HM2, HW1⟩
        case measure => simp [intOf]; omega
    · obtain rfl : k = l.length := by omega
      have e : pl = -1 := by
        rw [HPL.out]
        have h := HP.out
        rw [HPL.out] at h
        have hl : l.length = (l.map (·.f0)).length := by simp
        rw [hl] at h
        exact place_none h
      subst e
      go_wp2_with (fail)
      go_ret
      exact ⟨rfl, HW.out⟩
end Go.Proofs.Ytdpncghnlkgkdaa.H
