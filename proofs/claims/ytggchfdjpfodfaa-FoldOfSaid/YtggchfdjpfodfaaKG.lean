/- awake, walked: it is true. No condition.
   The law's awake tells true. No condition. -/
import Derived.Test.YtggchfdjpfodfaaKF
import Derived.Test.YtggchfdjpfodfaaKD
set_option linter.unusedVariables false
set_option linter.unusedSimpArgs false
namespace Go.Proofs.Ytggchfdjpfodfaa.K
open Go.RowKit Go.Proofs.YtggchfdjpfodfaaW.PrintWords Go.Proofs.YtggchfdjpfodfaaW.PrintLast Go.Proofs.YtggchfdjpfodfaaW.PrintMore Go.Proofs.Ytggchfdjpfodfaa.G
open Sp

def cells48 (t : S48) : List Value := [.int .i64 t.f0, .int .i64 t.f1, .int .i64 t.f2, .int .i64 t.f3, .int .i64 t.f4, .int .i64 t.f5, .int .i64 t.f6, .int .u32 t.f7]
theorem reps48 (W : World) (base : Nat) (ok : Nat → Prop) : ∀ xs : List S48, Reps (k48.M W base ok) 8 xs (xs.flatMap cells48) := by
  intro xs
  suffices h : ∀ ys : List S48, Reps (k48.M W base ok) 8 xs.reverse.reverse (xs.reverse.reverse.flatMap cells48) by simpa using h []
  intro _
  generalize xs.reverse = zs
  induction zs with
  | nil => exact Reps.none _ _
  | cons z zs ih =>
    rw [List.reverse_cons, List.flatMap_append]
    exact Reps.snoc ih (by simpa [cells48] using k48_mkM W base ok z) (by simp [cells48])
theorem flat48_len (xs : List S48) : (xs.flatMap cells48).length = xs.length * 8 := by
  induction xs with
  | nil => rfl
  | cons x xs ih => simp only [List.flatMap_cons, List.length_append, ih, List.length_cons]; simp [cells48]; omega
/-- A literal row of instructions. -/
theorem lit48 (W : World) (base : Nat) (hb : base ≤ W.heap.size) (xs : List S48) (hx : xs.length ≤ 1000000) :
    Kd.R k48 48 (W.alloc (.cells (xs.flatMap cells48).toArray 48)) base (fun _ => True) (.slice (some ⟨W.heap.size, 0, none⟩) xs.length xs.length) xs := by
  have h := World.ownsRow_lit (base := base) (e := 48) (size := 8) W (xs.flatMap cells48).toArray xs.length hb (by simp [maxLen]; omega) (by rw [List.size_toArray, flat48_len])
  rw [List.toList_toArray] at h
  refine ⟨fun _ _ => trivial, xs.flatMap cells48, h, ?_⟩
  exact (reps48 _ _ _ xs)
/-- A literal row of one block. -/
theorem lit45 (W : World) (base : Nat) (hb : base ≤ W.heap.size) (b : S45) (v : Value) (hv : Kd.R k48 48 W base (fun _ => True) v b.f0) :
    Kd.R k45 45 (W.alloc (.cells #[v, .int .i64 b.f1, .int .i64 b.f2, .int .i64 b.f3, .int .i64 b.f4] 45)) base (fun _ => True) (.slice (some ⟨W.heap.size, 0, none⟩) 1 1) [b] := by
  have h := World.ownsRow_lit (base := base) (e := 45) (size := 5) W #[v, .int .i64 b.f1, .int .i64 b.f2, .int .i64 b.f3, .int .i64 b.f4] 1 hb (by simp [maxLen]) (by simp)
  refine ⟨fun _ _ => trivial, _, h, ?_⟩
  have hM := k45_mkM (W.alloc (.cells #[v, .int .i64 b.f1, .int .i64 b.f2, .int .i64 b.f3, .int .i64 b.f4] 45)) base (fun k => True ∧ some k ≠ (Value.slice (some ⟨W.heap.size, 0, none⟩) 1 1).ownBlock) b (Kd.R_mono (Kd.R_alloc (Kd.R_bound hv) _) (fun k hk => ⟨trivial, fun e => by
    have := hk.2.2.1
    simp [Value.ownBlock] at e
    omega⟩))
  exact Reps.snoc (Reps.none _ _) hM rfl

theorem lit_fn (W : World) (base : Nat) (hb : base ≤ W.heap.size) (b : S45) (hx : b.f0.length ≤ 1000000) :
    Kd.R k45 45 ((W.alloc (.cells (b.f0.flatMap cells48).toArray 48)).alloc (.cells #[.slice (some ⟨W.heap.size, 0, none⟩) b.f0.length b.f0.length, .int .i64 b.f1, .int .i64 b.f2, .int .i64 b.f3, .int .i64 b.f4] 45)) base (fun _ => True) (.slice (some ⟨W.heap.size + 1, 0, none⟩) 1 1) [b] := by
  have h := lit45 (W.alloc (.cells (b.f0.flatMap cells48).toArray 48)) base (by simp; omega) b _ (lit48 W base hb b.f0 hx)
  rw [show (W.alloc (.cells (b.f0.flatMap cells48).toArray 48)).heap.size = W.heap.size + 1 by simp] at h
  exact h
def bA : S45 := ⟨[⟨1, 0, 0, 0, 0, 0, 0, 2⟩, ⟨2, 1, 0, 0, 0, 0, 0, 0⟩, ⟨3, 2, 0, 1, 6, 0, 0, 0⟩], 3, 0, 0, 0⟩
def bW : S45 := ⟨[⟨1, 0, 0, 0, 0, 0, 0, 2⟩, ⟨1, 1, 0, 0, 0, 0, 0, 2⟩, ⟨1, 2, 0, 0, 0, 0, 0, 4⟩], 3, 0, 0, 0⟩
theorem okA : ∀ b ∈ [bA], ∀ t ∈ b.f0, OkI t := by
  intro b hb t ht
  obtain rfl := List.mem_singleton.1 hb
  simp only [bA, List.mem_cons, List.not_mem_nil, or_false] at ht
  rcases ht with rfl | rfl | rfl <;> exact ⟨by decide, by decide, by decide, by simp [W32]⟩
theorem awake_fold : [bA].map foldB = [bW] := by
  rfl

set_option maxHeartbeats 2000000 in
set_option maxRecDepth 100000 in
theorem awake_calls (w : World) : Calls Try.prog 9 #[] w fun e w' => e = .returned (.bool true) ∧ Below w.heap.size w w' := by
  have hu29 := Try.underlying29
  have hu32 := Try.underlying32
  have hu45 := Try.underlying45
  have hu48 := Try.underlying48
  go_enter Try.func9, Try.ntmps9
  go_wp2_with (fail)
  have h1 : Kd.R k45 45 ((w.alloc (.cells #[.int .i64 1, .int .i64 0, .int .i64 0, .int .i64 0, .int .i64 0, .int .i64 0, .int .i64 0, .int .u32 2, .int .i64 2, .int .i64 1, .int .i64 0, .int .i64 0, .int .i64 0, .int .i64 0, .int .i64 0, .int .u32 0, .int .i64 3, .int .i64 2, .int .i64 0, .int .i64 1, .int .i64 6, .int .i64 0, .int .i64 0, .int .u32 0] 48)).alloc (.cells #[.slice (some ⟨w.heap.size, 0, none⟩) 3 3, .int .i64 3, .int .i64 0, .int .i64 0, .int .i64 0] 45)) w.heap.size (fun _ => True) (.slice (some ⟨w.heap.size + 1, 0, none⟩) 1 1) [bA] := lit_fn w w.heap.size (Nat.le_refl _) bA (by decide)
  obtain ⟨W1, hW1⟩ : ∃ W1, W1 = (w.alloc (.cells #[.int .i64 1, .int .i64 0, .int .i64 0, .int .i64 0, .int .i64 0, .int .i64 0, .int .i64 0, .int .u32 2, .int .i64 2, .int .i64 1, .int .i64 0, .int .i64 0, .int .i64 0, .int .i64 0, .int .i64 0, .int .u32 0, .int .i64 3, .int .i64 2, .int .i64 0, .int .i64 1, .int .i64 6, .int .i64 0, .int .i64 0, .int .u32 0] 48)).alloc (.cells #[.slice (some ⟨w.heap.size, 0, none⟩) 3 3, .int .i64 3, .int .i64 0, .int .i64 0, .int .i64 0] 45) := ⟨_, rfl⟩
  rw [← hW1] at h1 ⊢
  have hB1 : Below w.heap.size w W1 := by rw [hW1]; exact below_alloc (below_alloc (Below.refl _ _) _) _
  have hz1 : W1.heap.size = w.heap.size + 1 + 1 := by rw [hW1]; simp
  clear hW1
  obtain ⟨W2, hW2⟩ : ∃ W2, W2 = W1.alloc (.cells #[.int .i64 3, .slice (some ⟨w.heap.size + 1, 0, none⟩) 1 1] 29) := ⟨_, rfl⟩
  rw [← hW2]
  have h2 := Kd.R_alloc h1 (.cells #[.int .i64 3, .slice (some ⟨w.heap.size + 1, 0, none⟩) 1 1] 29)
  have b1 := blk_new W1 (.cells #[.int .i64 3, .slice (some ⟨w.heap.size + 1, 0, none⟩) 1 1] 29)
  have hB2 := below_alloc hB1 (.cells #[.int .i64 3, .slice (some ⟨w.heap.size + 1, 0, none⟩) 1 1] 29)
  rw [← hW2] at h2 b1 hB2
  rw [hz1] at b1
  have hz2 : W2.heap.size = w.heap.size + 1 + 1 + 1 := by rw [hW2]; simp [hz1]
  clear hW2 h1 hB1 hz1
  have h3 := lit_fn W2 w.heap.size hB2.size bW (by decide)
  rw [hz2] at h3
  have h3' : Kd.R k45 45 ((W2.alloc (.cells #[.int .i64 1, .int .i64 0, .int .i64 0, .int .i64 0, .int .i64 0, .int .i64 0, .int .i64 0, .int .u32 2, .int .i64 1, .int .i64 1, .int .i64 0, .int .i64 0, .int .i64 0, .int .i64 0, .int .i64 0, .int .u32 2, .int .i64 1, .int .i64 2, .int .i64 0, .int .i64 0, .int .i64 0, .int .i64 0, .int .i64 0, .int .u32 4] 48)).alloc (.cells #[.slice (some ⟨w.heap.size + 1 + 1 + 1, 0, none⟩) 3 3, .int .i64 3, .int .i64 0, .int .i64 0, .int .i64 0] 45)) w.heap.size (fun _ => True) (.slice (some ⟨w.heap.size + 1 + 1 + 1 + 1, 0, none⟩) 1 1) [bW] := h3
  clear h3
  have h4 := Kd.R_alloc h3' (.cells #[.int .i64 3, .slice (some ⟨w.heap.size + 1 + 1 + 1 + 1, 0, none⟩) 1 1] 29)
  have h5 := Kd.R_alloc (Kd.R_alloc (Kd.R_alloc h2 (.cells #[.int .i64 1, .int .i64 0, .int .i64 0, .int .i64 0, .int .i64 0, .int .i64 0, .int .i64 0, .int .u32 2, .int .i64 1, .int .i64 1, .int .i64 0, .int .i64 0, .int .i64 0, .int .i64 0, .int .i64 0, .int .u32 2, .int .i64 1, .int .i64 2, .int .i64 0, .int .i64 0, .int .i64 0, .int .i64 0, .int .i64 0, .int .u32 4] 48)) (.cells #[.slice (some ⟨w.heap.size + 1 + 1 + 1, 0, none⟩) 3 3, .int .i64 3, .int .i64 0, .int .i64 0, .int .i64 0] 45)) (.cells #[.int .i64 3, .slice (some ⟨w.heap.size + 1 + 1 + 1 + 1, 0, none⟩) 1 1] 29)
  have b2 := blk_alloc (blk_alloc (blk_alloc b1 (.cells #[.int .i64 1, .int .i64 0, .int .i64 0, .int .i64 0, .int .i64 0, .int .i64 0, .int .i64 0, .int .u32 2, .int .i64 1, .int .i64 1, .int .i64 0, .int .i64 0, .int .i64 0, .int .i64 0, .int .i64 0, .int .u32 2, .int .i64 1, .int .i64 2, .int .i64 0, .int .i64 0, .int .i64 0, .int .i64 0, .int .i64 0, .int .u32 4] 48)) (.cells #[.slice (some ⟨w.heap.size + 1 + 1 + 1, 0, none⟩) 3 3, .int .i64 3, .int .i64 0, .int .i64 0, .int .i64 0] 45)) (.cells #[.int .i64 3, .slice (some ⟨w.heap.size + 1 + 1 + 1 + 1, 0, none⟩) 1 1] 29)
  have b3 := blk_new ((W2.alloc (.cells #[.int .i64 1, .int .i64 0, .int .i64 0, .int .i64 0, .int .i64 0, .int .i64 0, .int .i64 0, .int .u32 2, .int .i64 1, .int .i64 1, .int .i64 0, .int .i64 0, .int .i64 0, .int .i64 0, .int .i64 0, .int .u32 2, .int .i64 1, .int .i64 2, .int .i64 0, .int .i64 0, .int .i64 0, .int .i64 0, .int .i64 0, .int .u32 4] 48)).alloc (.cells #[.slice (some ⟨w.heap.size + 1 + 1 + 1, 0, none⟩) 3 3, .int .i64 3, .int .i64 0, .int .i64 0, .int .i64 0] 45)) (.cells #[.int .i64 3, .slice (some ⟨w.heap.size + 1 + 1 + 1 + 1, 0, none⟩) 1 1] 29)
  have hB4 := below_alloc (below_alloc (below_alloc hB2 (.cells #[.int .i64 1, .int .i64 0, .int .i64 0, .int .i64 0, .int .i64 0, .int .i64 0, .int .i64 0, .int .u32 2, .int .i64 1, .int .i64 1, .int .i64 0, .int .i64 0, .int .i64 0, .int .i64 0, .int .i64 0, .int .u32 2, .int .i64 1, .int .i64 2, .int .i64 0, .int .i64 0, .int .i64 0, .int .i64 0, .int .i64 0, .int .u32 4] 48)) (.cells #[.slice (some ⟨w.heap.size + 1 + 1 + 1, 0, none⟩) 3 3, .int .i64 3, .int .i64 0, .int .i64 0, .int .i64 0] 45)) (.cells #[.int .i64 3, .slice (some ⟨w.heap.size + 1 + 1 + 1 + 1, 0, none⟩) 1 1] 29)
  have hz4 : (((W2.alloc (.cells #[.int .i64 1, .int .i64 0, .int .i64 0, .int .i64 0, .int .i64 0, .int .i64 0, .int .i64 0, .int .u32 2, .int .i64 1, .int .i64 1, .int .i64 0, .int .i64 0, .int .i64 0, .int .i64 0, .int .i64 0, .int .u32 2, .int .i64 1, .int .i64 2, .int .i64 0, .int .i64 0, .int .i64 0, .int .i64 0, .int .i64 0, .int .u32 4] 48)).alloc (.cells #[.slice (some ⟨w.heap.size + 1 + 1 + 1, 0, none⟩) 3 3, .int .i64 3, .int .i64 0, .int .i64 0, .int .i64 0] 45)).alloc (.cells #[.int .i64 3, .slice (some ⟨w.heap.size + 1 + 1 + 1 + 1, 0, none⟩) 1 1] 29)).heap.size = w.heap.size + 1 + 1 + 1 + 1 + 1 + 1 := by simp [hz2]
  rw [show ((W2.alloc (.cells #[.int .i64 1, .int .i64 0, .int .i64 0, .int .i64 0, .int .i64 0, .int .i64 0, .int .i64 0, .int .u32 2, .int .i64 1, .int .i64 1, .int .i64 0, .int .i64 0, .int .i64 0, .int .i64 0, .int .i64 0, .int .u32 2, .int .i64 1, .int .i64 2, .int .i64 0, .int .i64 0, .int .i64 0, .int .i64 0, .int .i64 0, .int .u32 4] 48)).alloc (.cells #[.slice (some ⟨w.heap.size + 1 + 1 + 1, 0, none⟩) 3 3, .int .i64 3, .int .i64 0, .int .i64 0, .int .i64 0] 45)).heap.size = w.heap.size + 1 + 1 + 1 + 1 + 1 by simp [hz2]] at b3
  generalize (((W2.alloc (.cells #[.int .i64 1, .int .i64 0, .int .i64 0, .int .i64 0, .int .i64 0, .int .i64 0, .int .i64 0, .int .u32 2, .int .i64 1, .int .i64 1, .int .i64 0, .int .i64 0, .int .i64 0, .int .i64 0, .int .i64 0, .int .u32 2, .int .i64 1, .int .i64 2, .int .i64 0, .int .i64 0, .int .i64 0, .int .i64 0, .int .i64 0, .int .u32 4] 48)).alloc (.cells #[.slice (some ⟨w.heap.size + 1 + 1 + 1, 0, none⟩) 3 3, .int .i64 3, .int .i64 0, .int .i64 0, .int .i64 0] 45)).alloc (.cells #[.int .i64 3, .slice (some ⟨w.heap.size + 1 + 1 + 1 + 1, 0, none⟩) 1 1] 29)) = W4 at *
  clear h3' h2 b1 hB2 hz2
  obtain ⟨Aa, ca, ea, hla, hCa⟩ := Kd.R_reads h5
  obtain ⟨Ab, cb, eb, hlb, hCb⟩ := Kd.R_reads h4
  injection ea with ea1 ea2 ea3
  subst ea1
  injection eb with eb1 eb2 eb3
  subst eb1
  subst ea3
  subst eb3
  refine (of_calls 3 _ _ [bA] W4 hCa hla (by decide) (by decide) (by decide) (by decide) okA).mono ?_
  rintro e w5 ⟨v1, v2, rfl, r1, r2, hb5⟩
  replace r1 := Kd.S_R r1
  replace r2 := Kd.S_R r2
  rw [awake_fold] at r1
  obtain ⟨Af, nf, cf, rfl⟩ := R_slicen r1
  obtain ⟨Ac, nc, cc, rfl⟩ := R_slicen r2
  obtain ⟨Af', cf', ef, hlf, hCf⟩ := Kd.R_reads r1
  obtain ⟨Ac', cc', ec, hlc, hCc⟩ := Kd.R_reads r2
  injection ef with ef1 ef2 ef3
  subst ef1
  subst ef2
  subst ef3
  injection ec with ec1 ec2 ec3
  subst ec1
  subst ec2
  subst ec3
  have hCw := Kd.C_below hCb hb5
  have b4 := blk_below b3 hb5
  have hz5 := hb5.size
  rw [hz4] at hz5
  have x0 : w5.cell? ⟨w.heap.size + 1 + 1 + 1 + 1 + 1, 0, none⟩ = some (.int .i64 3) := (blk_cell b4 0).trans rfl
  have x1 : w5.cell? ⟨w.heap.size + 1 + 1 + 1 + 1 + 1, 1, none⟩ = some (.slice (some ⟨w.heap.size + 1 + 1 + 1 + 1, 0, none⟩) 1 1) := (blk_cell b4 1).trans rfl
  have hx : w.heap.size + 1 + 1 + 1 + 1 + 1 < w5.heap.size := by omega
  have hx' : w.heap.size + 1 + 1 + 1 + 1 + 1 < w5.heap.size + 1 := by omega
  have hB5 := Aside0.mk (below_then hB4 hB4.size hb5)
  clear ea2 eb2 hz4 hB4 b2 b3 hz5 h4 h5
  go_wp2_with (fail)
  refine (same_calls 3 Af (some ⟨w.heap.size + 1 + 1 + 1 + 1, 0, none⟩) cf 1 [bW] _ (by exact Kd.C_alloc (Kd.C_alloc hCf _) _) (by exact Kd.C_alloc (Kd.C_alloc hCw _) _)).mono ?_
  rintro e w6 ⟨rfl, hb6⟩
  have b7 := blk_below (blk_new (w5.alloc (.cells #[.int .i64 3, .slice Af 1 cf] 29)) (.cells #[.slice Ac 1 cc] 32)) hb6
  rw [show (w5.alloc (.cells #[.int .i64 3, .slice Af 1 cf] 29)).heap.size = w5.heap.size + 1 by simp] at b7
  obtain ⟨ad, A0, c0, rfl, y0, hlen0, hC0⟩ := at_L8 (Kd.C_below (Kd.C_alloc (Kd.C_alloc hCc _) _) hb6) 0 (by decide) (by decide)
  obtain ⟨ai, e2, s0⟩ := Kd.at_bool hC0 2 (by decide) (by decide)
  subst e2
  have y1 : w6.cell? (ad.add 0) = some (.slice (some ai) 3 c0) := y0
  have s1 : w6.cell? (ai.add 2) = some (.bool true) := s0
  have z1 : w6.cell? ⟨w5.heap.size + 1, 0, none⟩ = some (.slice (some ad) 1 cc) := (blk_cell b7 0).trans rfl
  clear y0 s0
  have y2 : w6.cell? ad = some (.slice (some ai) 3 c0) := by have h := y1; unfold Addr.add at h; simpa using h
  have s2 : w6.cell? ⟨ai.block, ai.off + 2, none⟩ = some (.bool true) := by have h := s1; unfold Addr.add at h; simpa using h
  clear y1 s1
  go_wp2_with (fail)
  go_ret
  exact ⟨rfl, below_then (below_alloc (below_alloc hB5.out _) _) (by have := hB5.out.size; simp; omega) hb6⟩
end Go.Proofs.Ytggchfdjpfodfaa.K
set_option linter.unusedVariables false
namespace Go.Proofs.Ytggchfdjpfodfaa.G
open Go.RowKit Go.Proofs.YtggchfdjpfodfaaW.PrintWords Go.Proofs.YtggchfdjpfodfaaW.PrintLast Go.Proofs.YtggchfdjpfodfaaW.PrintMore
open Sp K

def seedcornlaw30_awake.f : Option Bool := some true
theorem seedcornlaw30_awake.calls (r : Bool) (w : World) (h : seedcornlaw30_awake.f = some r) :
    Calls Try.prog 9 #[] w fun e w' => e = .returned (.bool r) ∧ Below w.heap.size w w' := by
  injection h with h
  subst h
  exact awake_calls w
end Go.Proofs.Ytggchfdjpfodfaa.G
