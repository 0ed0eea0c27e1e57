/- An argument of a nested type, opened whole: what the row says of its value gives a value of the kind, as long as its weight allows. No condition. -/
import Derived.Test.YtdknnekkbhpjlaaWWords
import Derived.OpenShut
import Derived.SizedLaws
import Derived.ChangeSlices
import Derived.Deep.Slices
set_option linter.unusedVariables false
set_option linter.unusedSimpArgs false
namespace Go.Proofs.Ytdknnekkbhpjlaa.OP
open Go.ChangeShapes Go.WideShapes Go.RowKit Go.Proofs.YtdknnekkbhpjlaaW.PrintWords

/-- Whatever reads as a value of type t is of the kind d, and good. -/
def Opn (P : Program) {α : Type} (d : Kd α) (t : TypeId) (G : α → Prop) : Prop :=
  P.cellsOf t = d.sz ∧ ∀ (H : Type) (enc : TypeId × Value → H) (W : World) (held : Bool) (fuel : Nat) (cs : List Value) (x : DataW H × List MemPlace),
    DataW.trod enc P W 0 (fun _ => true) held fuel t cs = some x → (∀ n ∈ x.1.weights P t, n ≤ reachBytes) → ∃ a, d.K W a cs ∧ G a

theorem Opn.mono {P : Program} {α : Type} {d : Kd α} {t : TypeId} {G G' : α → Prop} (h : Opn P d t G) (hg : ∀ a, G a → G' a) : Opn P d t G' :=
  ⟨h.1, fun H enc W held fuel cs x ht hw => by
    obtain ⟨a, ha, hG⟩ := h.2 H enc W held fuel cs x ht hw
    exact ⟨a, ha, hg a hG⟩⟩
theorem Opn.iso {P : Program} {α β : Type} {d : Kd α} {t : TypeId} {G : α → Prop} (h : Opn P d t G) (f : β → α) (g : α → β) (hg : ∀ a, f (g a) = a) : Opn P (Kd.iso d f) t (fun b => G (f b)) :=
  ⟨h.1, fun H enc W held fuel cs x ht hw => by
    obtain ⟨a, ha, hG⟩ := h.2 H enc W held fuel cs x ht hw
    exact ⟨g a, show d.K W (f (g a)) cs by rw [hg]; exact ha, show G (f (g a)) by rw [hg]; exact hG⟩⟩
theorem op_int {P : Program} {t : TypeId} {k : IntKind} (ht : P.underlying t = some (.int k)) (hc : P.cellsOf t = 1) : Opn P (Kd.int k) t (fun n => k.min ≤ n ∧ n ≤ k.max) :=
  ⟨hc, fun H enc W held fuel cs x h hw => by
    obtain ⟨n, rfl, _, hn⟩ := DataW.trod_int ht h
    simp only [Lit.wf, Bool.and_eq_true, decide_eq_true_eq] at hn
    exact ⟨n, rfl, hn⟩⟩
theorem op_bool {P : Program} {t : TypeId} (ht : P.underlying t = some .bool) (hc : P.cellsOf t = 1) : Opn P Kd.bool t (fun _ => True) :=
  ⟨hc, fun H enc W held fuel cs x h hw => by
    obtain ⟨n, rfl, _⟩ := DataW.trod_bool ht h
    exact ⟨n, rfl, trivial⟩⟩
theorem op_string {P : Program} {t : TypeId} (ht : P.underlying t = some .string) (hc : P.cellsOf t = 1) : Opn P Kd.string t (fun s => s.size ≤ 140737488351232) :=
  ⟨hc, fun H enc W held fuel cs x h hw => by
    obtain ⟨s, rfl, rfl, _⟩ := DataW.trod_string ht h
    refine ⟨s, rfl, ?_⟩
    have := hw s.size (by simp [DataW.weights])
    exact this⟩
theorem all_mem {P : Program} {H : Type} {e : TypeId} : ∀ {l : List (DataW H)} {d : DataW H}, d ∈ l → ∀ n ∈ d.weights P e, n ∈ DataW.weightsAll P e l
  | [], _, h, _, _ => by simp at h
  | d0 :: r, d, h, n, hn => by
    simp only [DataW.weightsAll, List.mem_append]
    rcases List.mem_cons.1 h with rfl | h
    · exact .inl hn
    · exact .inr (all_mem h n hn)
theorem op_slice {P : Program} {α : Type} {d : Kd α} {t e : TypeId} {G : α → Prop} {B : Nat} (ht : P.underlying t = some (.slice e)) (hc : P.cellsOf t = 1) (hB : P.bytesOf e = B) (h : Opn P d e G) :
    Opn P (Kd.slice e d) t (fun xs => (∀ x ∈ xs, G x) ∧ xs.length * B ≤ 140737488351232 ∧ xs.length ≤ maxLen) :=
  ⟨hc, fun H enc W held fuel cs x hx hw => by
    rcases DataW.trod_slice ht hx with ⟨rfl, rfl⟩ | ⟨a, len, cap, elems, rest, n, rfl, rfl, rfl, hb, hl, hm, he, hcell, hsp, _⟩
    · exact ⟨[], ⟨none, 0, rfl, Nat.le_refl _, rfl, Nat.zero_le _, fun hh => absurd hh (Nat.lt_irrefl 0)⟩, by simp, by simp, Nat.zero_le _⟩
    · have hw1 : (elems.length + rest.length) * P.bytesOf e ≤ reachBytes := hw _ (by simp [DataW.weights, ht])
      have hw2 : ∀ y ∈ elems, ∀ m ∈ y.1.weights P e, m ≤ reachBytes := fun y hy m hmm => hw m (by
        simp only [DataW.weights, ht, List.mem_cons, List.mem_append]
        exact .inr (.inl (all_mem (List.mem_map_of_mem hy) m hmm)))
      have each : ∀ i, i < len → ∃ y : α, G y ∧ ∃ c : List Value, c.length = d.sz ∧ d.K W y c ∧ ∀ j u, c[j]? = some u → W.cell? (a.add (i * d.sz + j)) = some u := by
        intro i hi
        have h1 := hcell i hi
        have hlt : i < elems.length := by omega
        rw [List.getElem?_eq_getElem hlt, Option.bind_eq_some_iff] at h1
        obtain ⟨c, hcs, htr⟩ := h1
        obtain ⟨_, hlen, hcc⟩ := World.cells?_some hcs
        rw [h.1] at hlen hcc
        obtain ⟨y, hy, hG⟩ := h.2 H enc W held n c elems[i] htr (hw2 _ (List.getElem_mem hlt))
        refine ⟨y, hG, c, hlen, hy, fun j u hj => ?_⟩
        obtain ⟨hjl, _⟩ := List.getElem?_eq_some_iff.1 hj
        have h3 := hcc j (by omega)
        rw [hj] at h3
        rw [← h3, Addr.add_add]
      by_cases h0 : len = 0
      · subst h0
        exact ⟨[], ⟨some a, cap, rfl, hl, rfl, Nat.zero_le _, fun hh => absurd hh (Nat.lt_irrefl 0)⟩, by simp, by simp, Nat.zero_le _⟩
      obtain ⟨y0, _⟩ := each 0 (by omega)
      haveI : Inhabited α := ⟨y0⟩
      obtain ⟨f, hf⟩ := Go.Deep.choose_lt each
      have hlen : ((List.range len).map f).length = len := by simp
      have hcap : len ≤ 9223372036854775807 := Nat.le_trans hl (Nat.le_trans hm (by unfold maxLen; omega))
      refine ⟨(List.range len).map f, ⟨some a, cap, by rw [hlen], by rw [hlen]; exact hl, rfl, by rw [hlen]; exact hcap, fun _ => ⟨a, rfl, fun j p hj => ?_⟩⟩, fun x hx => ?_, ?_, by rw [hlen]; exact Nat.le_trans hl hm⟩
      · obtain ⟨hjl, rfl⟩ := List.getElem?_eq_some_iff.1 hj
        rw [hlen] at hjl
        simp only [List.getElem_map, List.getElem_range]
        exact (hf j hjl).2
      · obtain ⟨i, hi, rfl⟩ := List.mem_map.1 hx
        exact (hf i (List.mem_range.1 hi)).1
      · rw [hlen, ← hB, ← he]
        exact Nat.le_trans (Nat.mul_le_mul_right _ (Nat.le_add_right _ _)) hw1⟩

/-- The fields of a struct, from a place on. -/
def Fs (P : Program) {α : Type} (d : Kd α) (off : Nat) (fs : List Field) (G : α → Prop) : Prop :=
  ∀ (H : Type) (enc : TypeId × Value → H) (W : World) (held : Bool) (fuel : Nat) (cs : List Value) (xs : List (DataW H × List MemPlace)), xs.length = fs.length →
    (∀ (i : Nat) (f : Field), fs[i]? = some f → DataW.trod enc P W 0 (fun _ => true) held fuel f.type ((cs.drop f.offset).take (P.cellsOf f.type)) = xs[i]?) →
    (∀ n ∈ DataW.weightsEach P (fs.map (·.type)) (xs.map (·.1)), n ≤ reachBytes) → cs.length = off + d.sz → ∃ a, d.K W a (cs.drop off) ∧ G a
theorem fs_one {P : Program} {α : Type} {d : Kd α} {off : Nat} {f : Field} {G : α → Prop} (h : Opn P d f.type G) (ho : f.offset = off) : Fs P d off [f] G := by
  intro H enc W held fuel cs xs hl ht hw hn
  match xs, hl with
  | [y], _ =>
    have h1 := ht 0 f rfl
    rw [ho, h.1, List.take_of_length_le (by rw [List.length_drop]; omega)] at h1
    exact h.2 H enc W held fuel _ y h1 (fun n hm => hw n (by simp [DataW.weightsEach]; exact hm))
theorem fs_cons {P : Program} {α β : Type} {d : Kd α} {d' : Kd β} {off : Nat} {f : Field} {fs : List Field} {G : α → Prop} {G' : β → Prop} (h : Opn P d f.type G) (ho : f.offset = off) (hr : Fs P d' (off + d.sz) fs G') :
    Fs P (Kd.pair d d') off (f :: fs) (fun x => G x.1 ∧ G' x.2) := by
  intro H enc W held fuel cs xs hl ht hw hn
  match xs, hl with
  | y :: ys, hl =>
    have hn' : cs.length = off + (d.sz + d'.sz) := hn
    have h1 := ht 0 f rfl
    rw [ho, h.1] at h1
    obtain ⟨a, ha, hG⟩ := h.2 H enc W held fuel _ y h1 (fun n hm => hw n (by simp only [List.map_cons, DataW.weightsEach, List.mem_append]; exact .inl hm))
    obtain ⟨b, hb, hG'⟩ := hr H enc W held fuel cs ys (by simpa using hl) (fun i g hg => ht (i + 1) g hg) (fun n hm => hw n (by simp only [List.map_cons, DataW.weightsEach, List.mem_append]; exact .inr hm)) (by omega)
    refine ⟨(a, b), ⟨_, _, ?_, ha, hb⟩, hG, hG'⟩
    rw [← List.drop_drop, List.take_append_drop]
theorem op_struct {P : Program} {α : Type} {d : Kd α} {t : TypeId} {fs : Array Field} {G : α → Prop} (ht : P.underlying t = some (.struct fs)) (hc : P.cellsOf t = d.sz) (h : Fs P d 0 fs.toList G) : Opn P d t G :=
  ⟨hc, fun H enc W held fuel cs x hx hw => by
    obtain ⟨xs, n, rfl, rfl, hl, hlen, hf⟩ := DataW.trod_struct ht hx
    have := h H enc W held n cs xs (by simpa using hlen) (fun i f hi => hf i f (by simpa using hi)) (fun n hm => hw n (by simp only [DataW.weights, ht]; exact hm)) (by omega)
    simpa using this⟩
/-- An argument. -/
theorem op_arg {P : Program} {α : Type} {d : Kd α} {t : TypeId} {G : α → Prop} (h : Opn P d t G) {H : Type} {enc : TypeId × Value → H} {W : World} {held : Bool} {v : Value} {x : DataW H} {ps : List MemPlace} {ts : List TypeId} {ds : List (DataW H)} {j : Nat}
    (hx : DataW.Trod enc P W 0 (fun _ => true) held t v x ps) (hsz : (DataW.weightsEach P ts ds).all (· ≤ reachBytes) = true) (htj : ts[j]? = some t) (hdj : ds[j]? = some x) : ∃ a, d.K W a v.cells.toList ∧ G a := by
  obtain ⟨fuel, hf⟩ := hx
  refine h.2 H enc W held fuel _ (x, ps) hf (fun n hn => ?_)
  have := List.all_eq_true.1 hsz n (DataW.weights_mem_each htj hdj n hn)
  simpa using this
end Go.Proofs.Ytdknnekkbhpjlaa.OP
