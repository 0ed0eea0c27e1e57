/- seedcornlaw16.plain, walked: the document's example. Condition: the arguments lie in memory.
   The document's examples of the chapter, in plain Lean.
   seedcornlaw16.alive, walked: the document's examples come out. -/
import Derived.Test.YtdpncghnlkgkdaaGf12
import Derived.Test.YtdpncghnlkgkdaaGf13
import Derived.Test.YtdpncghnlkgkdaaMA
import Derived.Test.YtdpncghnlkgkdaaMD
import Derived.Test.YtdpncghnlkgkdaaGf17
set_option linter.unusedVariables false
set_option linter.unusedSimpArgs false
namespace Go.Proofs.Ytdpncghnlkgkdaa.H
open Go.RowKit Go.Proofs.YtdpncghnlkgkdaaW.PrintWords Go.Proofs.YtdpncghnlkgkdaaW.PrintLast Go.Proofs.YtdpncghnlkgkdaaW.PrintMore Go.Proofs.Ytdpncghnlkgkdaa.G
set_option maxHeartbeats 2000000 in
set_option maxRecDepth 100000 in
theorem put_calls (k o n : Int) (s : ByteArray) (A : Option Addr) (m c : Nat) (w : World) :
    Calls Try.prog 12 #[.agg #[.int .i64 k, .int .i64 o, .int .u32 n, .string s, .slice A m c]] w fun e w' => ∃ g, e = .returned (.agg #[.int .i64 3, .string ⟨#[]⟩, .slice (some ⟨g, 0, none⟩) 1 1, .slice none 0 0, .slice none 0 0]) ∧ w.heap.size ≤ g ∧ w'.heap[g]? = some (.cells #[.int .i64 k, .int .i64 o, .int .u32 n, .string s, .slice A m c] 37 (0, 0)) ∧ Below w.heap.size w w' := by
  go_enter Try.func12, Try.ntmps12
  go_wp2_with (fail)
  have hb := blk_new ((w.alloc (.cells #[.int .i64 k, .int .i64 o, .int .u32 n, .string s, .slice A m c] 37)).alloc (.cells #[.int .i64 3, .string ⟨#[]⟩, .slice (some ⟨w.heap.size + 1 + 1, 0, none⟩) 1 1, .slice none 0 0, .slice none 0 0] 33)) (.cells #[.int .i64 k, .int .i64 o, .int .u32 n, .string s, .slice A m c] 37)
  have hz : ((w.alloc (.cells #[.int .i64 k, .int .i64 o, .int .u32 n, .string s, .slice A m c] 37)).alloc (.cells #[.int .i64 3, .string ⟨#[]⟩, .slice (some ⟨w.heap.size + 1 + 1, 0, none⟩) 1 1, .slice none 0 0, .slice none 0 0] 33)).heap.size = w.heap.size + 1 + 1 := by simp
  rw [hz] at hb
  refine bodyPost_ret (v := .agg #[.int .i64 3, .string ⟨#[]⟩, .slice (some ⟨w.heap.size + 1 + 1, 0, none⟩) 1 1, .slice none 0 0, .slice none 0 0]) (by simp [results, Try.results12, go_sem]) rfl ⟨w.heap.size + 1 + 1, rfl, by omega, hb, ?_⟩
  exact below_alloc (below_alloc (below_alloc (Below.refl _ _) _) _) _
set_option maxHeartbeats 2000000 in
set_option maxRecDepth 100000 in
theorem num_calls (n : Int) (w : World) : Calls Try.prog 13 #[.int .u32 n] w fun e w' => e = .returned (.agg #[.int .i64 1, .int .i64 0, .int .u32 n, .string ⟨#[]⟩, .slice none 0 0]) ∧ Below w.heap.size w w' := by
  go_enter Try.func13, Try.ntmps13
  go_wp2_with (fail)
  refine bodyPost_ret (v := .agg #[.int .i64 1, .int .i64 0, .int .u32 n, .string ⟨#[]⟩, .slice none 0 0]) (by simp [results, Try.results13, go_sem]) rfl ⟨rfl, ?_⟩
  exact below_alloc (Below.refl _ _) _
theorem heap_push (w : World) (o : Obj) (n : Nat) : (w.alloc o).heap[n]? = if n = w.heap.size then some o else w.heap[n]? := by
  simp only [World.alloc, Array.getElem?_push]
theorem heap_size (w : World) (o : Obj) : (w.alloc o).heap.size = w.heap.size + 1 := by
  simp only [World.alloc, Array.size_push]
theorem chain5 (w : World) (o0 o1 o2 o3 o4 : Obj) :
    (((((w.alloc o0).alloc o1).alloc o2).alloc o3).alloc o4).heap[w.heap.size]? = some o0 ∧ (((((w.alloc o0).alloc o1).alloc o2).alloc o3).alloc o4).heap[w.heap.size + 1]? = some o1 ∧ (((((w.alloc o0).alloc o1).alloc o2).alloc o3).alloc o4).heap[w.heap.size + 2]? = some o2 ∧ (((((w.alloc o0).alloc o1).alloc o2).alloc o3).alloc o4).heap[w.heap.size + 3]? = some o3 ∧ (((((w.alloc o0).alloc o1).alloc o2).alloc o3).alloc o4).heap[w.heap.size + 4]? = some o4 := by
  refine ⟨?_, ?_, ?_, ?_, ?_⟩ <;> simp only [heap_push, heap_size] <;> (repeat' split) <;> first | rfl | (exfalso; omega) | (exfalso; simp_all)
theorem chain3 (w : World) (o0 o1 o2 : Obj) :
    (((w.alloc o0).alloc o1).alloc o2).heap[w.heap.size]? = some o0 ∧ (((w.alloc o0).alloc o1).alloc o2).heap[w.heap.size + 1]? = some o1 ∧ (((w.alloc o0).alloc o1).alloc o2).heap[w.heap.size + 2]? = some o2 := by
  refine ⟨?_, ?_, ?_⟩ <;> simp only [heap_push, heap_size] <;> (repeat' split) <;> first | rfl | (exfalso; omega) | (exfalso; simp_all)
/-- A row out of its block. -/
theorem C_block {α : Type} {d : Kd α} {w : World} {g t : Nat} {cs : Array Value} {xs : List α} (hb : w.heap[g]? = some (.cells cs t (0, 0))) (hl : xs.length ≤ 1000) (hr : ∀ (j : Nat) (p : α), xs[j]? = some p → ∃ c : List Value, c.length = d.sz ∧ d.K w p c ∧ ∀ i u, c[i]? = some u → cs[j * d.sz + i]? = some u) : d.C w (some ⟨g, 0, none⟩) xs.length xs := by
  refine ⟨rfl, by omega, fun _ => ⟨_, rfl, fun j p hp => ?_⟩⟩
  obtain ⟨c, h1, h2, h3⟩ := hr j p hp
  refine ⟨c, h1, h2, fun i u hu => ?_⟩
  have := blk_cell hb (j * d.sz + i)
  rw [h3 i u hu] at this
  show w.cell? ((⟨g, 0, none⟩ : Addr).add _) = _
  rw [Addr.add_lit, Nat.zero_add]
  exact this
def aS : ByteArray := ⟨#[97]⟩
def fS : ByteArray := ⟨#[102]⟩
/-- The example: f, and main that puts what a call tells. -/
def funF : S40 := ⟨fS, [aS], [], true, [⟨7, ⟨#[]⟩, [⟨2, 0, 0, aS, []⟩], [], []⟩]⟩
def funM (name : ByteArray) (l : List S37) : S40 := ⟨mainS, [], [], false, [⟨3, ⟨#[]⟩, [⟨4, 0, 0, name, l⟩], [], []⟩]⟩
/-- The example lies in memory. -/
theorem plain_mem (w5 S : World) (h g c : Nat) (name : ByteArray) (A : Option Addr) (l : List S37)
    (hS : ∀ k, k ≠ h → S.heap[k]? = w5.heap[k]?) (hz : S.heap.size = w5.heap.size) (hg : g ≠ h)
    (H1 : w5.heap[h + 1]? = some (.cells #[.string ⟨#[97]⟩] 9 (0, 0)))
    (H2 : w5.heap[h + 2]? = some (.cells #[.int .i64 2, .int .i64 0, .int .u32 0, .string ⟨#[97]⟩, .slice none 0 0] 37 (0, 0)))
    (H3 : w5.heap[h + 3]? = some (.cells #[.int .i64 7, .string ⟨#[]⟩, .slice (some ⟨h + 2, 0, none⟩) 1 1, .slice none 0 0, .slice none 0 0] 33 (0, 0)))
    (H5 : w5.heap[g]? = some (.cells #[.int .i64 4, .int .i64 0, .int .u32 0, .string name, .slice A l.length c] 37 (0, 0)))
    (o2 : Obj) (w7 : World)
    (hw7 : w7 = ((S.alloc (.cells #[.int .i64 3, .string ⟨#[]⟩, .slice (some ⟨g, 0, none⟩) 1 1, .slice none 0 0, .slice none 0 0] 33)).alloc o2).alloc (.cells #[.string ⟨#[102]⟩, .slice (some ⟨h + 1, 0, none⟩) 1 1, .slice none 0 0, .bool true, .slice (some ⟨h + 3, 0, none⟩) 1 1, .string ⟨#[109, 97, 105, 110]⟩, .slice none 0 0, .slice none 0 0, .bool false, .slice (some ⟨w5.heap.size, 0, none⟩) 1 1] 40))
    (hr : k37.C w7 A l.length l) (hc : l.length ≤ c) : k40.C w7 (some ⟨w5.heap.size + 2, 0, none⟩) 2 [funF, funM name l] := by
  obtain ⟨n1, n2, n3⟩ := chain3 S (.cells #[.int .i64 3, .string ⟨#[]⟩, .slice (some ⟨g, 0, none⟩) 1 1, .slice none 0 0, .slice none 0 0] 33) o2 (.cells #[.string ⟨#[102]⟩, .slice (some ⟨h + 1, 0, none⟩) 1 1, .slice none 0 0, .bool true, .slice (some ⟨h + 3, 0, none⟩) 1 1, .string ⟨#[109, 97, 105, 110]⟩, .slice none 0 0, .slice none 0 0, .bool false, .slice (some ⟨w5.heap.size, 0, none⟩) 1 1] 40)
  rw [← hw7, hz] at n1 n2 n3
  have up : ∀ (k : Nat) (o : Obj), k ≠ h → w5.heap[k]? = some o → w7.heap[k]? = some o := by
    intro k o hk ho
    rw [hw7]
    exact blk_alloc (blk_alloc (blk_alloc ((hS k hk).trans ho) _) _) _
  have G1 := up _ _ (by omega) H1
  have G2 := up _ _ (by omega) H2
  have G3 := up _ _ (by omega) H3
  have G5 := up _ _ hg H5
  have e37 : k37.C w7 none 0 [] := Kd.C_nil _ _
  have e33 : k33.C w7 none 0 [] := Kd.C_nil _ _
  have eS : Kd.string.C w7 none 0 [] := Kd.C_nil _ _
  have c1 : Kd.string.C w7 (some ⟨h + 1, 0, none⟩) 1 [aS] := C_block (d := Kd.string) (xs := [aS]) G1 (by simp) (fun j p hp => by
    cases j with
    | succ j => simp at hp
    | zero => obtain rfl : aS = p := by simpa using hp
              exact ⟨[.string ⟨#[97]⟩], rfl, rfl, fun i u hu => by simpa using hu⟩)
  have c2 : k37.C w7 (some ⟨h + 2, 0, none⟩) 1 [⟨2, 0, 0, aS, []⟩] := C_block (d := k37) (xs := [(⟨2, 0, 0, aS, []⟩ : S37)]) G2 (by simp) (fun j p hp => by
    cases j with
    | succ j => simp at hp
    | zero => obtain rfl : (⟨2, 0, 0, aS, []⟩ : S37) = p := by simpa using hp
              exact ⟨[.int .i64 2, .int .i64 0, .int .u32 0, .string ⟨#[97]⟩, .slice none 0 0], rfl, k37_mk w7 ⟨2, 0, 0, aS, []⟩ (Nat.le_refl _) e37, fun i u hu => by simpa using hu⟩)
  have c3 : k33.C w7 (some ⟨h + 3, 0, none⟩) 1 [⟨7, ⟨#[]⟩, [⟨2, 0, 0, aS, []⟩], [], []⟩] := C_block (d := k33) (xs := [(⟨7, ⟨#[]⟩, [⟨2, 0, 0, aS, []⟩], [], []⟩ : S33)]) G3 (by simp) (fun j p hp => by
    cases j with
    | succ j => simp at hp
    | zero => obtain rfl : (⟨7, ⟨#[]⟩, [⟨2, 0, 0, aS, []⟩], [], []⟩ : S33) = p := by simpa using hp
              exact ⟨[.int .i64 7, .string ⟨#[]⟩, .slice (some ⟨h + 2, 0, none⟩) 1 1, .slice none 0 0, .slice none 0 0], rfl, k33_mk w7 ⟨7, ⟨#[]⟩, [⟨2, 0, 0, aS, []⟩], [], []⟩ (Nat.le_refl _) c2 (Nat.le_refl _) e33 (Nat.le_refl _) e33, fun i u hu => by simpa using hu⟩)
  have c5 : k37.C w7 (some ⟨g, 0, none⟩) 1 [⟨4, 0, 0, name, l⟩] := C_block (d := k37) (xs := [(⟨4, 0, 0, name, l⟩ : S37)]) G5 (by simp) (fun j p hp => by
    cases j with
    | succ j => simp at hp
    | zero => obtain rfl : (⟨4, 0, 0, name, l⟩ : S37) = p := by simpa using hp
              exact ⟨[.int .i64 4, .int .i64 0, .int .u32 0, .string name, .slice A l.length c], rfl, k37_mk w7 ⟨4, 0, 0, name, l⟩ hc hr, fun i u hu => by simpa using hu⟩)
  have c6 : k33.C w7 (some ⟨w5.heap.size, 0, none⟩) 1 [⟨3, ⟨#[]⟩, [⟨4, 0, 0, name, l⟩], [], []⟩] := C_block (d := k33) (xs := [(⟨3, ⟨#[]⟩, [⟨4, 0, 0, name, l⟩], [], []⟩ : S33)]) n1 (by simp) (fun j p hp => by
    cases j with
    | succ j => simp at hp
    | zero => obtain rfl : (⟨3, ⟨#[]⟩, [⟨4, 0, 0, name, l⟩], [], []⟩ : S33) = p := by simpa using hp
              exact ⟨[.int .i64 3, .string ⟨#[]⟩, .slice (some ⟨g, 0, none⟩) 1 1, .slice none 0 0, .slice none 0 0], rfl, k33_mk w7 ⟨3, ⟨#[]⟩, [⟨4, 0, 0, name, l⟩], [], []⟩ (Nat.le_refl _) c5 (Nat.le_refl _) e33 (Nat.le_refl _) e33, fun i u hu => by simpa using hu⟩)
  exact C_block (d := k40) (xs := [funF, funM name l]) n3 (by simp) (fun j p hp => by
    cases j with
    | zero => obtain rfl : funF = p := by simpa using hp
              refine ⟨[.string ⟨#[102]⟩, .slice (some ⟨h + 1, 0, none⟩) 1 1, .slice none 0 0, .bool true, .slice (some ⟨h + 3, 0, none⟩) 1 1], rfl, k40_mk w7 funF (Nat.le_refl _) c1 (Nat.le_refl _) eS (Nat.le_refl _) c3, ?_⟩
              intro i u hu
              match i, hu with
              | 0, hu => exact hu
              | 1, hu => exact hu
              | 2, hu => exact hu
              | 3, hu => exact hu
              | 4, hu => exact hu
              | i + 5, hu => simp at hu
    | succ j =>
      cases j with
      | succ j => simp at hp
      | zero => obtain rfl : funM name l = p := by simpa using hp
                refine ⟨[.string ⟨#[109, 97, 105, 110]⟩, .slice none 0 0, .slice none 0 0, .bool false, .slice (some ⟨w5.heap.size, 0, none⟩) 1 1], rfl, k40_mk w7 (funM name l) (Nat.le_refl _) eS (Nat.le_refl _) eS (Nat.le_refl _) c6, ?_⟩
                intro i u hu
                match i, hu with
                | 0, hu => exact hu
                | 1, hu => exact hu
                | 2, hu => exact hu
                | 3, hu => exact hu
                | 4, hu => exact hu
                | i + 5, hu => simp at hu)
set_option maxHeartbeats 4000000 in
set_option maxRecDepth 100000 in
theorem plain_calls (name : ByteArray) (A : Option Addr) (c : Nat) (l : List S37) (w : World) (hr : k37.C w A l.length l) (hc : l.length ≤ c) :
    Calls Try.prog 24 #[.string name, .slice A l.length c] w fun e w' => ∃ g, e = .returned (.agg #[.slice none 0 0, .slice none 0 0, .slice (some ⟨g, 0, none⟩) 2 2]) ∧ k40.C w' (some ⟨g, 0, none⟩) 2 [funF, funM name l] ∧ Below w.heap.size w w' := by
  have HR := Aside0.mk hr
  have HC := Aside0.mk hc
  clear hr hc
  go_enter Try.func24, Try.ntmps24
  go_wp2_with (fail)
  refine (put_calls 4 0 0 name A l.length c _).mono ?_
  rintro e w5 ⟨g, rfl, hg, hb5, hB5⟩
  obtain ⟨h0, h1, h2, h3, h4⟩ := chain5 w (.cells #[.slice none 0 0, .slice none 0 0, .slice none 0 0] 26) (.cells #[.string ⟨#[97]⟩] 9) (.cells #[.int .i64 2, .int .i64 0, .int .u32 0, .string ⟨#[97]⟩, .slice none 0 0] 37) (.cells #[.int .i64 7, .string ⟨#[]⟩, .slice (some ⟨w.heap.size + 1 + 1, 0, none⟩) 1 1, .slice none 0 0, .slice none 0 0] 33) (.cells #[.string ⟨#[102]⟩, .slice (some ⟨w.heap.size + 1, 0, none⟩) 1 1, .slice none 0 0, .bool true, .slice (some ⟨w.heap.size + 1 + 1 + 1, 0, none⟩) 1 1] 40)
  have H0 := Aside0.mk (blk_below h0 hB5)
  have H1 := Aside0.mk (blk_below h1 hB5)
  have H2 := Aside0.mk (blk_below h2 hB5)
  have H3 := Aside0.mk (blk_below h3 hB5)
  have H4 := Aside0.mk (blk_below h4 hB5)
  have H5 := Aside0.mk hb5
  have HBa := Aside0.mk (below_then (below_alloc (below_alloc (below_alloc (below_alloc (below_alloc (Below.refl w.heap.size w) _) _) _) _) _) (by simp; omega) hB5)
  have x0 : w5.cell? ⟨w.heap.size + 1 + 1 + 1 + 1, 0, none⟩ = some (.string ⟨#[102]⟩) := (blk_cell H4.out 0).trans rfl
  have x1 : w5.cell? ⟨w.heap.size + 1 + 1 + 1 + 1, 1, none⟩ = some (.slice (some ⟨w.heap.size + 1, 0, none⟩) 1 1) := (blk_cell H4.out 1).trans rfl
  have x2 : w5.cell? ⟨w.heap.size + 1 + 1 + 1 + 1, 2, none⟩ = some (.slice none 0 0) := (blk_cell H4.out 2).trans rfl
  have x3 : w5.cell? ⟨w.heap.size + 1 + 1 + 1 + 1, 3, none⟩ = some (.bool true) := (blk_cell H4.out 3).trans rfl
  have x4 : w5.cell? ⟨w.heap.size + 1 + 1 + 1 + 1, 4, none⟩ = some (.slice (some ⟨w.heap.size + 1 + 1 + 1, 0, none⟩) 1 1) := (blk_cell H4.out 4).trans rfl
  have b4 : w.heap.size + 1 + 1 + 1 + 1 < w5.heap.size := blk_lt H4.out
  have z0 : w5.cell? ⟨w.heap.size, 0, none⟩ = some (.slice none 0 0) := (blk_cell H0.out 0).trans rfl
  have z1 : w5.cell? ⟨w.heap.size, 1, none⟩ = some (.slice none 0 0) := (blk_cell H0.out 1).trans rfl
  have z2 : w5.cell? ⟨w.heap.size, 2, none⟩ = some (.slice none 0 0) := (blk_cell H0.out 2).trans rfl
  have f0 : w5.frozen? ⟨w.heap.size, 0, none⟩ = false := by simp [World.frozen?, H0.out]
  have f1 : w5.frozen? ⟨w.heap.size, 1, none⟩ = false := by simp [World.frozen?, H0.out]
  have f2 : w5.frozen? ⟨w.heap.size, 2, none⟩ = false := by simp [World.frozen?, H0.out]
  have b0 : w.heap.size < w5.heap.size := by omega
  have HG : Aside0 (g ≠ w.heap.size) := ⟨by have := hg; simp at this; omega⟩
  clear h0 h1 h2 h3 h4 hb5 hB5 hg
  obtain ⟨bF, hbF⟩ : ∃ bF, w.heap.size + 1 + 1 + 1 + 1 = bF := ⟨_, rfl⟩
  rw [hbF] at x0 x1 x2 x3 x4 b4 ⊢
  have HBF := Aside0.mk hbF
  have b5 : bF < w5.heap.size + 1 := by omega
  have b6 : w.heap.size < w5.heap.size + 1 := by omega
  have b7 : bF < w5.heap.size + 1 + 1 := by omega
  have b8 : w.heap.size < w5.heap.size + 1 + 1 := by omega
  clear hbF
  go_wp2_with (fail)
  obtain ⟨S, hS⟩ : ∃ S, S = (((w5.setCell ⟨w.heap.size, 0, none⟩ (.slice none 0 0)).setCell ⟨w.heap.size, 1, none⟩ (.slice none 0 0)).setCell ⟨w.heap.size, 2, none⟩ (.slice (some ⟨w5.heap.size + 1 + 1, 0, none⟩) 2 2)) := ⟨_, rfl⟩
  have hBS : Below w.heap.size w S := by
    rw [hS]
    exact below_set (below_set (below_set HBa.out (Nat.le_refl _)) (Nat.le_refl _)) (Nat.le_refl _)
  have hSk : ∀ k, k ≠ w.heap.size → S.heap[k]? = w5.heap[k]? := by
    intro k hk
    rw [hS, Below.heap_setCell _ _ _ _ hk, Below.heap_setCell _ _ _ _ hk, Below.heap_setCell _ _ _ _ hk]
  have hSz : S.heap.size = w5.heap.size := by rw [hS]; simp [World.setCell]
  have HS0 : S.heap[w.heap.size]? = some (.cells #[.slice none 0 0, .slice none 0 0, .slice (some ⟨w5.heap.size + 1 + 1, 0, none⟩) 2 2] 26 (0, 0)) := by
    rw [hS]
    exact blk_set (blk_set (blk_set H0.out 0 _) 1 _) 2 _
  rw [← hS]
  clear hS z0 z1 z2 f0 f1 f2 x0 x1 x2 x3 x4
  obtain ⟨w7, hw7⟩ : ∃ W, W = ((S.alloc (.cells #[.int .i64 3, .string ⟨#[]⟩, .slice (some ⟨g, 0, none⟩) 1 1, .slice none 0 0, .slice none 0 0] 33)).alloc (.cells #[.string ⟨#[109, 97, 105, 110]⟩, .slice none 0 0, .slice none 0 0, .bool false, .slice (some ⟨w5.heap.size, 0, none⟩) 1 1] 40)).alloc (.cells #[.string ⟨#[102]⟩, .slice (some ⟨w.heap.size + 1, 0, none⟩) 1 1, .slice none 0 0, .bool true, .slice (some ⟨w.heap.size + 1 + 1 + 1, 0, none⟩) 1 1, .string ⟨#[109, 97, 105, 110]⟩, .slice none 0 0, .slice none 0 0, .bool false, .slice (some ⟨w5.heap.size, 0, none⟩) 1 1] 40) := ⟨_, rfl⟩
  have hB7 : Below w.heap.size w w7 := by
    rw [hw7]
    exact below_alloc (below_alloc (below_alloc hBS _) _) _
  have HZ : w7.heap[w.heap.size]? = some (.cells #[.slice none 0 0, .slice none 0 0, .slice (some ⟨w5.heap.size + 1 + 1, 0, none⟩) 2 2] 26 (0, 0)) := by
    rw [hw7]
    exact blk_alloc (blk_alloc (blk_alloc HS0 _) _) _
  have y0 : w7.cell? ⟨w.heap.size, 0, none⟩ = some (.slice none 0 0) := (blk_cell HZ 0).trans rfl
  have y1 : w7.cell? ⟨w.heap.size, 1, none⟩ = some (.slice none 0 0) := (blk_cell HZ 1).trans rfl
  have y2 : w7.cell? ⟨w.heap.size, 2, none⟩ = some (.slice (some ⟨w5.heap.size + 1 + 1, 0, none⟩) 2 2) := (blk_cell HZ 2).trans rfl
  have hM := plain_mem w5 S w.heap.size g c name A l hSk hSz HG.out H1.out H2.out H3.out H5.out _ w7 hw7 (Kd.C_below HR.out hB7) HC.out
  rw [← hw7]
  clear hw7 HS0 HZ
  exact bodyPost_ret (v := .agg #[.slice none 0 0, .slice none 0 0, .slice (some ⟨w5.heap.size + 1 + 1, 0, none⟩) 2 2]) (by simp [results, Try.results24, go_sem, y0, y1, y2]) rfl ⟨_, rfl, hM, hB7⟩
end Go.Proofs.Ytdpncghnlkgkdaa.H
set_option linter.unusedSimpArgs false
set_option linter.unusedVariables false
namespace Go.Proofs.Ytdpncghnlkgkdaa.H
open Go.RowKit Go.Proofs.YtdpncghnlkgkdaaW.PrintWords Go.Proofs.YtdpncghnlkgkdaaW.PrintLast Go.Proofs.YtdpncghnlkgkdaaW.PrintMore Go.Proofs.Ytdpncghnlkgkdaa.G
def n1 : S37 := ⟨1, 0, 1, ⟨#[]⟩, []⟩
def n2 : S37 := ⟨1, 0, 2, ⟨#[]⟩, []⟩
def gS : ByteArray := ⟨#[103]⟩
def pl (s : ByteArray) (l : List S37) : List S40 := [funF, funM s l]
theorem usesF : usesS funF.f4 = [⟨aS, 2, -1⟩] := by simp [funF, usesS, useS, usesE, useE]
theorem usesM (s : ByteArray) (l : List S37) (h : usesE l = []) : usesS (funM s l).f4 = [⟨s, 4, l.length⟩] := by simp [funM, usesS, useS, usesE, useE, h]
theorem e1 : usesE [n1] = [] := by simp [usesE, useE, n1]
theorem e2 : usesE [n1, n2] = [] := by simp [usesE, useE, n1, n2]
theorem e0 : usesE [] = [] := by simp [usesE]
theorem len_pl (s : ByteArray) (l : List S37) : Lens [] [] (pl s l) := by
  refine ⟨Nat.zero_le _, Nat.zero_le _, (show 2 ≤ 1000 by omega), ?_⟩
  intro f hf
  simp only [pl, List.mem_cons, List.not_mem_nil, or_false] at hf
  rcases hf with rfl | rfl
  · exact ⟨by decide, by decide⟩
  · exact ⟨Nat.zero_le _, Nat.zero_le _⟩
theorem uses_pl : UsesB (pl fS [n1]) := by
  intro f hf
  simp only [pl, List.mem_cons, List.not_mem_nil, or_false] at hf
  rcases hf with rfl | rfl
  · rw [usesF]; decide
  · rw [usesM _ _ e1]; decide
theorem chk1 : checkP [] [] (pl fS [n1]) = 0 := by
  simp only [checkP, namedP, countedP, pl, List.zipIdx_cons, List.zipIdx_nil, List.all_cons, List.all_nil, usesF, usesM _ _ e1]
  decide
theorem chk2 : checkP [] [] (pl fS [n1, n2]) = 1 := by
  simp only [checkP, namedP, countedP, pl, List.zipIdx_cons, List.zipIdx_nil, List.all_cons, List.all_nil, usesF, usesM _ _ e2]
  decide
theorem chk3 : checkP [] [] (pl gS [n1]) = 4 := by
  simp only [checkP, namedP, countedP, pl, List.zipIdx_cons, List.zipIdx_nil, List.all_cons, List.all_nil, usesF, usesM _ _ e1]
  decide
theorem chk4 : checkP [] [] (pl mainS []) = 4 := by
  simp only [checkP, namedP, countedP, pl, List.zipIdx_cons, List.zipIdx_nil, List.all_cons, List.all_nil, usesF, usesM _ _ e0]
  decide
theorem call1 : callsP [] [] (pl fS [n1]) = [[], [0]] := by
  have h0 : rawC [] [] (pl fS [n1]) 0 = [] := by
    show List.foldl _ _ (usesS (rd_T40 (pl fS [n1]) 0).f4) = _
    rw [show rd_T40 (pl fS [n1]) 0 = funF from rfl, usesF]
    decide
  have h1 : rawC [] [] (pl fS [n1]) 1 = [0] := by
    show List.foldl _ _ (usesS (rd_T40 (pl fS [n1]) 1).f4) = _
    rw [show rd_T40 (pl fS [n1]) 1 = funM fS [n1] from rfl, usesM _ _ e1]
    decide
  show [rowC [] [] (pl fS [n1]) 0, rowC [] [] (pl fS [n1]) 1] = _
  unfold rowC
  rw [h0, h1]
  simp only [sortP, Lib.compact, List.mergeSort_nil, List.mergeSort_singleton]
  rfl
end Go.Proofs.Ytdpncghnlkgkdaa.H
set_option linter.unusedVariables false
set_option linter.unusedSimpArgs false
namespace Go.Proofs.Ytdpncghnlkgkdaa.H
open Go.RowKit Go.Proofs.YtdpncghnlkgkdaaW.PrintWords Go.Proofs.YtdpncghnlkgkdaaW.PrintLast Go.Proofs.YtdpncghnlkgkdaaW.PrintMore Go.Proofs.Ytdpncghnlkgkdaa.G
/-- One argument in a row of its own. -/
theorem one_mem (w : World) : k37.C (w.alloc (.cells #[.int .i64 1, .int .i64 0, .int .u32 1, .string ⟨#[]⟩, .slice none 0 0] 37)) (some ⟨w.heap.size, 0, none⟩) 1 [n1] :=
  C_block (d := k37) (xs := [n1]) (blk_new w _) (by simp) (fun j p hp => by
    cases j with
    | succ j => simp at hp
    | zero => obtain rfl : n1 = p := by simpa using hp
              exact ⟨[.int .i64 1, .int .i64 0, .int .u32 1, .string ⟨#[]⟩, .slice none 0 0], rfl, k37_mk _ n1 (Nat.le_refl _) (Kd.C_nil _ _), fun i u hu => by simpa using hu⟩)
/-- Two arguments. -/
theorem two_mem (w : World) : k37.C (w.alloc (.cells #[.int .i64 1, .int .i64 0, .int .u32 1, .string ⟨#[]⟩, .slice none 0 0, .int .i64 1, .int .i64 0, .int .u32 2, .string ⟨#[]⟩, .slice none 0 0] 37)) (some ⟨w.heap.size, 0, none⟩) 2 [n1, n2] :=
  C_block (d := k37) (xs := [n1, n2]) (blk_new w _) (by simp) (fun j p hp => by
    cases j with
    | zero => obtain rfl : n1 = p := by simpa using hp
              refine ⟨[.int .i64 1, .int .i64 0, .int .u32 1, .string ⟨#[]⟩, .slice none 0 0], rfl, k37_mk _ n1 (Nat.le_refl _) (Kd.C_nil _ _), ?_⟩
              intro i u hu
              match i, hu with
              | 0, hu => exact hu
              | 1, hu => exact hu
              | 2, hu => exact hu
              | 3, hu => exact hu
              | 4, hu => exact hu
              | i + 5, hu => simp at hu
    | succ j =>
      cases j with
      | succ j => simp at hp
      | zero => obtain rfl : n2 = p := by simpa using hp
                refine ⟨[.int .i64 1, .int .i64 0, .int .u32 2, .string ⟨#[]⟩, .slice none 0 0], rfl, k37_mk _ n2 (Nat.le_refl _) (Kd.C_nil _ _), ?_⟩
                intro i u hu
                match i, hu with
                | 0, hu => exact hu
                | 1, hu => exact hu
                | 2, hu => exact hu
                | 3, hu => exact hu
                | 4, hu => exact hu
                | i + 5, hu => simp at hu)
/-- What Calls must tell. -/
theorem want_mem (w : World) : (Kd.slice 3 (Kd.int .i64)).C ((w.alloc (.cells #[.int .i64 0] 3)).alloc (.cells #[.slice none 0 0, .slice (some ⟨w.heap.size, 0, none⟩) 1 1] 51)) (some ⟨w.heap.size + 1, 0, none⟩) 2 [[], [0]] := by
  have hz : (w.alloc (.cells #[.int .i64 0] 3)).heap.size = w.heap.size + 1 := by simp
  have hb := blk_new (w.alloc (.cells #[.int .i64 0] 3)) (.cells #[.slice none 0 0, .slice (some ⟨w.heap.size, 0, none⟩) 1 1] 51)
  rw [hz] at hb
  have hc : (Kd.int .i64).C ((w.alloc (.cells #[.int .i64 0] 3)).alloc (.cells #[.slice none 0 0, .slice (some ⟨w.heap.size, 0, none⟩) 1 1] 51)) (some ⟨w.heap.size, 0, none⟩) 1 [0] :=
    C_block (d := Kd.int .i64) (xs := [0]) (blk_alloc (blk_new w _) _) (by simp) (fun j p hp => by
      cases j with
      | succ j => simp at hp
      | zero => obtain rfl : 0 = p := by simpa using hp
                exact ⟨[.int .i64 0], rfl, rfl, fun i u hu => by simpa using hu⟩)
  exact C_block (d := Kd.slice 3 (Kd.int .i64)) (xs := [[], [0]]) hb (by simp) (fun j p hp => by
    cases j with
    | zero => obtain rfl : [] = p := by simpa using hp
              refine ⟨[.slice none 0 0], rfl, ⟨none, 0, rfl, Nat.le_refl _, Kd.C_nil _ _⟩, ?_⟩
              intro i u hu
              match i, hu with
              | 0, hu => exact hu
              | i + 1, hu => simp at hu
    | succ j =>
      cases j with
      | succ j => simp at hp
      | zero => obtain rfl : [0] = p := by simpa using hp
                refine ⟨[.slice (some ⟨w.heap.size, 0, none⟩) 1 1], rfl, ⟨some ⟨w.heap.size, 0, none⟩, 1, rfl, Nat.le_refl _, hc⟩, ?_⟩
                intro i u hu
                match i, hu with
                | 0, hu => exact hu
                | i + 1, hu => simp at hu)
set_option maxHeartbeats 4000000 in
set_option maxRecDepth 100000 in
theorem alive_calls (w : World) : Calls Try.prog 9 #[] w fun e w' => e = .returned (.bool true) ∧ Below w.heap.size w w' := by
  go_enter Try.func9, Try.ntmps9
  go_wp2_with (fail)
  refine (num_calls 1 _).mono ?_
  rintro e u1 ⟨rfl, hb1⟩
  have HB1 := Aside0.mk (hb1)
  clear hb1
  go_wp2_with (fail)
  refine (plain_calls fS (some ⟨u1.heap.size, 0, none⟩) 1 [n1] (u1.alloc (.cells #[.int .i64 1, .int .i64 0, .int .u32 1, .string ⟨#[]⟩, .slice none 0 0] 37)) (one_mem u1) (Nat.le_refl _)).mono ?_
  rintro e u2 ⟨g2, rfl, hC2, hb2⟩
  have HB2 := Aside0.mk (below_then (below_alloc HB1.out (.cells #[.int .i64 1, .int .i64 0, .int .u32 1, .string ⟨#[]⟩, .slice none 0 0] 37)) (below_alloc HB1.out (.cells #[.int .i64 1, .int .i64 0, .int .u32 1, .string ⟨#[]⟩, .slice none 0 0] 37)).size hb2)
  have HC2 := Aside0.mk hC2
  clear hC2 hb2
  go_wp2_with (fail)
  refine (calls_calls none 0 [] none 0 [] (some ⟨g2, 0, none⟩) 2 (pl fS [n1]) u2 ⟨Kd.C_nil _ _, Kd.C_nil _ _, HC2.out, Nat.le_refl _, Nat.le_refl _, Nat.le_refl _⟩ (len_pl _ _) (show 0 < 2 by omega) uses_pl).mono ?_
  rintro e u3 ⟨v, rfl, hS, hb3⟩
  rw [call1] at hS
  obtain ⟨A, c, rfl, hcl, hC⟩ := Kd.S_reads hS
  have HB3 := Aside0.mk (below_then HB2.out HB2.out.size hb3)
  have HC3 := Aside0.mk hC
  have HL3 := Aside0.mk hcl
  clear hS hb3 hC hcl HC2
  go_wp2_with (fail)
  refine (num_calls 1 _).mono ?_
  rintro e u4 ⟨rfl, hb4⟩
  have HB4 := Aside0.mk (below_then HB3.out HB3.out.size hb4)
  have HC4 := Aside0.mk (Kd.C_below HC3.out hb4)
  clear hb4
  go_wp2_with (fail)
  refine (plain_calls fS (some ⟨u4.heap.size, 0, none⟩) 1 [n1] (u4.alloc (.cells #[.int .i64 1, .int .i64 0, .int .u32 1, .string ⟨#[]⟩, .slice none 0 0] 37)) (one_mem u4) (Nat.le_refl _)).mono ?_
  rintro e u5 ⟨g5, rfl, hC5, hb5⟩
  have HB5 := Aside0.mk (below_then (below_alloc HB4.out (.cells #[.int .i64 1, .int .i64 0, .int .u32 1, .string ⟨#[]⟩, .slice none 0 0] 37)) (below_alloc HB4.out (.cells #[.int .i64 1, .int .i64 0, .int .u32 1, .string ⟨#[]⟩, .slice none 0 0] 37)).size hb5)
  have HC5 := Aside0.mk hC5
  have HD5 := Aside0.mk (Kd.C_below (Kd.C_below HC4.out (below_alloc (Below.refl _ u4) (.cells #[.int .i64 1, .int .i64 0, .int .u32 1, .string ⟨#[]⟩, .slice none 0 0] 37))) hb5)
  clear hC5 hb5
  go_wp2_with (fail)
  refine (check_calls none 0 [] none 0 [] (some ⟨g5, 0, none⟩) 2 (pl fS [n1]) u5 ⟨Kd.C_nil _ _, Kd.C_nil _ _, HC5.out, Nat.le_refl _, Nat.le_refl _, Nat.le_refl _⟩ (len_pl _ _) (show 0 < 2 by omega)).mono ?_
  rintro e u6 ⟨rfl, hb6⟩
  rw [chk1]
  have HB6 := Aside0.mk (below_then HB5.out HB5.out.size hb6)
  have HD6 := Aside0.mk (Kd.C_below HD5.out hb6)
  clear hb6
  go_wp2_with (fail)
  refine (seedcornref16_Same.calls 100 A c [[], [0]] (some ⟨u6.heap.size + 1, 0, none⟩) 2 [[], [0]] true ((u6.alloc (.cells #[.int .i64 0] 3)).alloc (.cells #[.slice none 0 0, .slice (some ⟨u6.heap.size, 0, none⟩) 1 1] 51)) (Kd.C_below HD6.out (below_alloc (below_alloc (Below.refl _ u6) (.cells #[.int .i64 0] 3)) (.cells #[.slice none 0 0, .slice (some ⟨u6.heap.size, 0, none⟩) 1 1] 51))) HL3.out (want_mem u6) (Nat.le_refl _) (by decide +kernel)).mono ?_
  rintro e u7 ⟨rfl, hd7⟩
  have HB7 : Aside0 (Below w.heap.size w u7) := ⟨below_then (below_alloc (below_alloc HB6.out (.cells #[.int .i64 0] 3)) (.cells #[.slice none 0 0, .slice (some ⟨u6.heap.size, 0, none⟩) 1 1] 51)) (below_alloc (below_alloc HB6.out (.cells #[.int .i64 0] 3)) (.cells #[.slice none 0 0, .slice (some ⟨u6.heap.size, 0, none⟩) 1 1] 51)).size hd7.below⟩
  clear hd7
  go_wp2_with (fail)
  refine (num_calls 1 _).mono ?_
  rintro e u8 ⟨rfl, hb8⟩
  have HB8 := Aside0.mk (below_then HB7.out HB7.out.size hb8)
  clear hb8
  go_wp2_with (fail)
  refine (num_calls 2 _).mono ?_
  rintro e u9 ⟨rfl, hb9⟩
  have HB9 := Aside0.mk (below_then HB8.out HB8.out.size hb9)
  clear hb9
  go_wp2_with (fail)
  refine (plain_calls fS (some ⟨u9.heap.size, 0, none⟩) 2 [n1, n2] (u9.alloc (.cells #[.int .i64 1, .int .i64 0, .int .u32 1, .string ⟨#[]⟩, .slice none 0 0, .int .i64 1, .int .i64 0, .int .u32 2, .string ⟨#[]⟩, .slice none 0 0] 37)) (two_mem u9) (Nat.le_refl _)).mono ?_
  rintro e u10 ⟨g10, rfl, hC10, hb10⟩
  have HB10 := Aside0.mk (below_then (below_alloc HB9.out (.cells #[.int .i64 1, .int .i64 0, .int .u32 1, .string ⟨#[]⟩, .slice none 0 0, .int .i64 1, .int .i64 0, .int .u32 2, .string ⟨#[]⟩, .slice none 0 0] 37)) (below_alloc HB9.out (.cells #[.int .i64 1, .int .i64 0, .int .u32 1, .string ⟨#[]⟩, .slice none 0 0, .int .i64 1, .int .i64 0, .int .u32 2, .string ⟨#[]⟩, .slice none 0 0] 37)).size hb10)
  have HC10 := Aside0.mk hC10
  clear hC10 hb10
  go_wp2_with (fail)
  refine (check_calls none 0 [] none 0 [] (some ⟨g10, 0, none⟩) 2 (pl fS [n1, n2]) u10 ⟨Kd.C_nil _ _, Kd.C_nil _ _, HC10.out, Nat.le_refl _, Nat.le_refl _, Nat.le_refl _⟩ (len_pl _ _) (show 0 < 2 by omega)).mono ?_
  rintro e u11 ⟨rfl, hb11⟩
  rw [chk2]
  have HB11 := Aside0.mk (below_then HB10.out HB10.out.size hb11)
  clear hb11
  go_wp2_with (fail)
  refine (num_calls 1 _).mono ?_
  rintro e u12 ⟨rfl, hb12⟩
  have HB12 := Aside0.mk (below_then HB11.out HB11.out.size hb12)
  clear hb12
  go_wp2_with (fail)
  refine (plain_calls gS (some ⟨u12.heap.size, 0, none⟩) 1 [n1] (u12.alloc (.cells #[.int .i64 1, .int .i64 0, .int .u32 1, .string ⟨#[]⟩, .slice none 0 0] 37)) (one_mem u12) (Nat.le_refl _)).mono ?_
  rintro e u13 ⟨g13, rfl, hC13, hb13⟩
  have HB13 := Aside0.mk (below_then (below_alloc HB12.out (.cells #[.int .i64 1, .int .i64 0, .int .u32 1, .string ⟨#[]⟩, .slice none 0 0] 37)) (below_alloc HB12.out (.cells #[.int .i64 1, .int .i64 0, .int .u32 1, .string ⟨#[]⟩, .slice none 0 0] 37)).size hb13)
  have HC13 := Aside0.mk hC13
  clear hC13 hb13
  go_wp2_with (fail)
  refine (check_calls none 0 [] none 0 [] (some ⟨g13, 0, none⟩) 2 (pl gS [n1]) u13 ⟨Kd.C_nil _ _, Kd.C_nil _ _, HC13.out, Nat.le_refl _, Nat.le_refl _, Nat.le_refl _⟩ (len_pl _ _) (show 0 < 2 by omega)).mono ?_
  rintro e u14 ⟨rfl, hb14⟩
  rw [chk3]
  have HB14 := Aside0.mk (below_then HB13.out HB13.out.size hb14)
  clear hb14
  go_wp2_with (fail)
  refine (plain_calls mainS none 0 [] u14 (Kd.C_nil _ _) (Nat.le_refl _)).mono ?_
  rintro e u15 ⟨g15, rfl, hC15, hb15⟩
  have HB15 := Aside0.mk (below_then HB14.out HB14.out.size hb15)
  have HC15 := Aside0.mk hC15
  clear hC15 hb15
  go_wp2_with (fail)
  refine (check_calls none 0 [] none 0 [] (some ⟨g15, 0, none⟩) 2 (pl mainS []) u15 ⟨Kd.C_nil _ _, Kd.C_nil _ _, HC15.out, Nat.le_refl _, Nat.le_refl _, Nat.le_refl _⟩ (len_pl _ _) (show 0 < 2 by omega)).mono ?_
  rintro e u16 ⟨rfl, hb16⟩
  rw [chk4]
  have HB16 := Aside0.mk (below_then HB15.out HB15.out.size hb16)
  clear hb16
  go_wp2_with (fail)
  go_ret
  exact ⟨rfl, HB16.out⟩
end Go.Proofs.Ytdpncghnlkgkdaa.H
namespace Go.Proofs.Ytdpncghnlkgkdaa.G
open Go.RowKit Go.Proofs.YtdpncghnlkgkdaaW.PrintWords Go.Proofs.YtdpncghnlkgkdaaW.PrintLast Go.Proofs.YtdpncghnlkgkdaaW.PrintMore
open H
def seedcornlaw16_alive.f : Option Bool := some true
theorem seedcornlaw16_alive.calls (r : Bool) (w : World) (h : seedcornlaw16_alive.f = some r) : Calls Try.prog 9 #[] w fun e w' => e = .returned (.bool r) ∧ Below w.heap.size w w' := by
  injection h with h
  subst h
  exact alive_calls w
end Go.Proofs.Ytdpncghnlkgkdaa.G
