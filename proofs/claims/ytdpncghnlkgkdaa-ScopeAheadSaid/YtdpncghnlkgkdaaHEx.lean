/- scope.exprs and scope.stmts, walked: what is handed in is done with each use, one behind the other. Condition: the trees lie in memory, and what is handed in does one step of a state at a time. -/
import Derived.Test.YtdpncghnlkgkdaaMA
import Derived.Shelf.GgClosure.Gives
set_option linter.unusedVariables false
set_option linter.unusedSimpArgs false
namespace Go.Proofs.Ytdpncghnlkgkdaa.H
open Go.RowKit Go.Proofs.YtdpncghnlkgkdaaW.PrintWords Go.Proofs.YtdpncghnlkgkdaaW.PrintLast Go.Proofs.YtdpncghnlkgkdaaW.PrintMore Go.Proofs.Ytdpncghnlkgkdaa.G

/-- Blocks of expressions and statements are as they were. -/
def Keep (W W' : World) : Prop := ∀ (b : Nat) (cs : Array Value) (t : TypeId) (fr : Nat × Nat), (t = 37 ∨ t = 33) → W.heap[b]? = some (.cells cs t fr) → W'.heap[b]? = some (.cells cs t fr)
theorem Keep.trans {W W' W'' : World} (h : Keep W W') (h' : Keep W' W'') : Keep W W'' := fun b cs t fr ht hb => h' b cs t fr ht (h b cs t fr ht hb)
theorem Keep.refl (W : World) : Keep W W := fun _ _ _ _ _ h => h
theorem Keep.below {W W' : World} (h : Below W.heap.size W W') : Keep W W' := fun b cs t fr ht hb => by
  have hlt : b < W.heap.size := by
    rcases Nat.lt_or_ge b W.heap.size with h1 | h1
    · exact h1
    · rw [Array.getElem?_eq_none h1] at hb; cases hb
  rw [h.block b hlt]
  exact hb
/-- A literal (function g, with three captured variables) that does a step of a state that the world St holds. w0: the world at the start. -/
structure Does {σ : Type} (g b1 b2 b3 : Nat) (St : σ → World → Prop) (step : σ → U → σ) (Ok : σ → U → Prop) (w0 : World) : Prop where
  eg : ∀ args w, (callFunc g args).run Try.prog w = .ok (.enter g args) w
  call : ∀ (s : σ) (u : U) (W : World), Ok s u → Below w0.heap.size w0 W → St s W → Calls Try.prog g #[.agg #[.string u.name, .int .i64 u.kind, .int .i64 u.args], .pointer (some ⟨b1, 0, none⟩), .pointer (some ⟨b2, 0, none⟩), .pointer (some ⟨b3, 0, none⟩)] W fun e W' => e = .returned (.tuple #[]) ∧ Below w0.heap.size w0 W' ∧ St (step s u) W' ∧ Keep W W'
  stays : ∀ (s : σ) (W W' : World), St s W → Below W.heap.size W W' → St s W'
def Did {σ : Type} (St : σ → World → Prop) (s : σ) (w0 w : World) (e : Ending) (w' : World) : Prop := e = .returned (.tuple #[]) ∧ Below w0.heap.size w0 w' ∧ St s w' ∧ Keep w w'
def Now {σ : Type} (St : σ → World → Prop) (s : σ) (w0 w' : World) : Prop := Below w0.heap.size w0 w' ∧ St s w'
theorem Does.now {σ : Type} {g b1 b2 b3 : Nat} {St : σ → World → Prop} {step : σ → U → σ} {Ok : σ → U → Prop} {w0 : World} (D : Does g b1 b2 b3 St step Ok w0) {s : σ} {W W' : World} (h : Now St s w0 W) (hb : Below W.heap.size W W') : Now St s w0 W' :=
  ⟨below_then h.1 h.1.size hb, D.stays s W W' h.2 hb⟩
theorem okAt {σ : Type} {Ok : σ → U → Prop} {step : σ → U → σ} {s : σ} {L : List U} (hok : ∀ pre u post, L = pre ++ u :: post → Ok (pre.foldl step s) u) {A M B : List U} (h : L = A ++ M ++ B) : ∀ pre u post, M = pre ++ u :: post → Ok (pre.foldl step (A.foldl step s)) u := fun pre u post e => by
  rw [← List.foldl_append]
  exact hok (A ++ pre) u (post ++ B) (by rw [h, e]; simp)
theorem rd37_cons {l : List S37} {k : Nat} (h : k < l.length) : l.take (k + 1) = l.take k ++ [rd_T37 l (k : Int)] := by
  unfold rd_T37
  rw [Int.toNat_natCast, List.getD_eq_getElem?_getD, List.getElem?_eq_getElem h, List.take_succ_eq_append_getElem h]
  rfl
theorem rd37_mem {l : List S37} {k : Nat} (h : k < l.length) : rd_T37 l (k : Int) ∈ l := by
  unfold rd_T37
  rw [Int.toNat_natCast, List.getD_eq_getElem?_getD, List.getElem?_eq_getElem h]
  exact List.getElem_mem h
theorem size37_f4 {l : List S37} {k : Nat} (h : k < l.length) : SizeOf.sizeOf (rd_T37 l (k : Int)).f4 < SizeOf.sizeOf l := by
  have h1 := List.sizeOf_lt_of_mem (rd37_mem h)
  have h2 : SizeOf.sizeOf (rd_T37 l (k : Int)).f4 < SizeOf.sizeOf (rd_T37 l (k : Int)) := by
    generalize rd_T37 l (k : Int) = e
    cases e
    simp
    omega
  omega
theorem usesE_take {l : List S37} {k : Nat} (h : k < l.length) : usesE (l.take (k + 1)) = usesE (l.take k) ++ (useE (rd_T37 l (k : Int)) ++ usesE (rd_T37 l (k : Int)).f4) := by
  rw [rd37_cons h, usesE_append, usesE_cons, usesE_nil]
  simp
theorem usesE_split {l : List S37} {k : Nat} (h : k < l.length) : usesE l = usesE (l.take k) ++ (useE (rd_T37 l (k : Int)) ++ usesE (rd_T37 l (k : Int)).f4) ++ usesE (l.drop (k + 1)) := by
  have : l = l.take (k + 1) ++ l.drop (k + 1) := (List.take_append_drop _ _).symm
  rw [← usesE_take h, ← usesE_append, ← this]
theorem rd33_cons {l : List S33} {k : Nat} (h : k < l.length) : l.take (k + 1) = l.take k ++ [rd_T33 l (k : Int)] := by
  unfold rd_T33
  rw [Int.toNat_natCast, List.getD_eq_getElem?_getD, List.getElem?_eq_getElem h, List.take_succ_eq_append_getElem h]
  rfl
theorem rd33_mem {l : List S33} {k : Nat} (h : k < l.length) : rd_T33 l (k : Int) ∈ l := by
  unfold rd_T33
  rw [Int.toNat_natCast, List.getD_eq_getElem?_getD, List.getElem?_eq_getElem h]
  exact List.getElem_mem h
theorem size33_f3 {l : List S33} {k : Nat} (h : k < l.length) : SizeOf.sizeOf (rd_T33 l (k : Int)).f3 < SizeOf.sizeOf l := by
  have h1 := List.sizeOf_lt_of_mem (rd33_mem h)
  have h2 : SizeOf.sizeOf (rd_T33 l (k : Int)).f3 < SizeOf.sizeOf (rd_T33 l (k : Int)) := by
    generalize rd_T33 l (k : Int) = e
    cases e
    simp
    omega
  omega
theorem size33_f4 {l : List S33} {k : Nat} (h : k < l.length) : SizeOf.sizeOf (rd_T33 l (k : Int)).f4 < SizeOf.sizeOf l := by
  have h1 := List.sizeOf_lt_of_mem (rd33_mem h)
  have h2 : SizeOf.sizeOf (rd_T33 l (k : Int)).f4 < SizeOf.sizeOf (rd_T33 l (k : Int)) := by
    generalize rd_T33 l (k : Int) = e
    cases e
    simp
    omega
  omega
theorem usesS_take {l : List S33} {k : Nat} (h : k < l.length) : usesS (l.take (k + 1)) = usesS (l.take k) ++ (useS (rd_T33 l (k : Int)) ++ usesE (rd_T33 l (k : Int)).f2 ++ usesS (rd_T33 l (k : Int)).f3 ++ usesS (rd_T33 l (k : Int)).f4) := by
  rw [rd33_cons h, usesS_append, usesS_cons, usesS_nil]
  simp
theorem usesS_split {l : List S33} {k : Nat} (h : k < l.length) : usesS l = usesS (l.take k) ++ (useS (rd_T33 l (k : Int)) ++ usesE (rd_T33 l (k : Int)).f2 ++ usesS (rd_T33 l (k : Int)).f3 ++ usesS (rd_T33 l (k : Int)).f4) ++ usesS (l.drop (k + 1)) := by
  have : l = l.take (k + 1) ++ l.drop (k + 1) := (List.take_append_drop _ _).symm
  rw [← usesS_take h, ← usesS_append, ← this]
set_option maxHeartbeats 8000000 in
set_option maxRecDepth 100000 in
theorem exprs_calls {σ : Type} {g b1 b2 b3 : Nat} {St : σ → World → Prop} {step : σ → U → σ} {Ok : σ → U → Prop} {w0 : World} (D : Does g b1 b2 b3 St step Ok w0) (N : Nat) :
    ∀ (l : List S37) (A : Option Addr) (c : Nat) (s : σ) (W : World), SizeOf.sizeOf l ≤ N → k37.C w0 A l.length l → l.length ≤ c → Now St s w0 W → (∀ pre u post, usesE l = pre ++ u :: post → Ok (pre.foldl step s) u) →
    Calls Try.prog 57 #[.slice A l.length c, .func (.func g) #[] #[.pointer (some ⟨b1, 0, none⟩), .pointer (some ⟨b2, 0, none⟩), .pointer (some ⟨b3, 0, none⟩)]] W (Did St ((usesE l).foldl step s) w0 W) := by
  induction N with
  | zero =>
    intro l A c s W hN
    cases l <;> simp at hN
  | succ N ih =>
    intro l A c s W hN hr hc hn hok
    have HN := Aside0.mk hN
    have HR := Aside0.mk hr
    have HS := Aside0.mk hn
    have HOK := Aside0.mk hok
    have IH := Aside0.mk ih
    have HD := Aside0.mk D
    have eg := D.eg
    have hmx := Kd.C_max hr
    clear hN hr hn hok ih D
    go_enter Try.func57, Try.ntmps57
    go_wp2_with (fail)
    go_loopw [8] (fun v8 wr => ∃ k : Nat, k ≤ l.length ∧ v8 = .int .i64 k ∧ Aside0 (Now St ((usesE (l.take k)).foldl step s) w0 wr) ∧ Aside0 (Keep W wr)) (fun v8 _ => l.length - (intOf v8).toNat)
    case atStart => exact ⟨0, Nat.zero_le _, rfl, ⟨by simp only [List.take_zero, usesE_nil, List.foldl_nil]; exact HS.out⟩, ⟨Keep.refl _⟩⟩
    case round =>
      clear HS
      obtain ⟨k, hk, rfl, HS, HK⟩ := hrel
      obtain ⟨wo, rfl⟩ : ∃ wo : World, wo = wr := ⟨_, rfl⟩
      by_cases hlt : k < l.length
      · obtain ⟨ad, A4, c4, rfl, y0, y1, y2, y3, y4, hl4, hCf4⟩ := at_T37 HR.out (k : Int) (by omega) (by omega)
        rw [Int.toNat_natCast] at y0 y1 y2 y3 y4
        have HT := Aside0.mk (usesE_take hlt)
        have HSP := Aside0.mk (usesE_split hlt)
        have HZf4 := Aside0.mk (size37_f4 hlt)
        have HCf4 := Aside0.mk hCf4
        have hmxf4 := Kd.C_max hCf4
        clear hCf4
        generalize rd_T37 l (k : Int) = x at *
        have x0 := pw_cell_below HS.out.1 y0
        have x1 := pw_cell_below HS.out.1 y1
        have x2 := pw_cell_below HS.out.1 y2
        have x3 := pw_cell_below HS.out.1 y3
        have x4 := pw_cell_below HS.out.1 y4
        have HB := Aside0.mk (blk_new wo (.cells #[.int .i64 x.f0, .int .i64 x.f1, .int .u32 x.f2, .string x.f3, .slice A4 x.f4.length c4] 37))
        have HS2 := Aside0.mk (HD.out.now HS.out (below_alloc (Below.refl _ _) (.cells #[.int .i64 x.f0, .int .i64 x.f1, .int .u32 x.f2, .string x.f3, .slice A4 x.f4.length c4] 37)))
        have HK2 := Aside0.mk (HK.out.trans (Keep.below (below_alloc (Below.refl _ _) (.cells #[.int .i64 x.f0, .int .i64 x.f1, .int .u32 x.f2, .string x.f3, .slice A4 x.f4.length c4] 37))))
        clear y0 y1 y2 y3 y4 HS HK
        by_cases h2 : x.f0 = 2
        · have hU : useE x = [⟨x.f3, 2, -1⟩] := by unfold useE; rw [if_pos h2]
          have HU := Aside0.mk hU
          clear hU
          rw [h2] at HB HS2 HK2 x0
          clear h2
          go_wp2_with (fail)
          refine (HD.out.call ((usesE (l.take k)).foldl step s) ⟨x.f3, 2, -1⟩ _ (okAt HOK.out (A := usesE (l.take k)) (M := useE x) (B := usesE x.f4 ++ usesE (l.drop (k + 1))) (by rw [HSP.out]; simp only [List.append_assoc]) [] _ [] (by rw [HU.out]; rfl)) HS2.out.1 HS2.out.2).mono ?_
          rintro e w5 ⟨rfl, hB5, hS5, hK5⟩
          have HS5 : Aside0 (Now St (((usesE (l.take k)) ++ useE x).foldl step s) w0 w5) := ⟨hB5, by rw [HU.out, List.foldl_append]; exact hS5⟩
          have hb5 := hK5 _ _ _ _ (by first | exact .inl rfl | exact .inr rfl) HB.out
          have z4 := blk_cell hb5 4
          have HK5 := Aside0.mk (HK2.out.trans hK5)
          have HB5 := Aside0.mk hb5
          replace z4 : w5.cell? ⟨wo.heap.size, 4, none⟩ = _ := z4.trans rfl
          clear hB5 hS5 hK5 hb5 x0 x1 x2 x3 x4 HS2 HK2 HB
          go_wp2_with (fail)
          refine (IH.out x.f4 A4 c4 _ _ (by have := HN.out; have := HZf4.out; omega) HCf4.out (by omega) HS5.out (okAt HOK.out (A := usesE (l.take k) ++ useE x) (M := usesE x.f4) (B := usesE (l.drop (k + 1))) (by rw [HSP.out]; simp only [List.append_assoc]))).mono ?_
          rintro e w6 ⟨rfl, hB6, hS6, hK6⟩
          have HS6 : Aside0 (Now St ((usesE (l.take k) ++ useE x ++ usesE x.f4).foldl step s) w0 w6) := ⟨hB6, by rw [List.foldl_append]; exact hS6⟩
          have HK6 := Aside0.mk (HK5.out.trans hK6)
          clear hB6 hS6 hK6
          go_wp2_with (fail)
          go_roundw
          case rel => exact ⟨k + 1, hlt, by go_num, ⟨by rw [HT.out]; simpa only [List.append_assoc] using HS6.out⟩, HK6⟩
          case measure => simp [intOf]; omega
        · skip
          by_cases h3 : x.f0 = 3
          · have hU : useE x = [⟨x.f3, 3, -1⟩] := by unfold useE; rw [if_neg h2]; rw [if_pos h3]
            have HU := Aside0.mk hU
            clear hU
            rw [h3] at HB HS2 HK2 x0
            clear h2 h3
            go_wp2_with (fail)
            refine (HD.out.call ((usesE (l.take k)).foldl step s) ⟨x.f3, 3, -1⟩ _ (okAt HOK.out (A := usesE (l.take k)) (M := useE x) (B := usesE x.f4 ++ usesE (l.drop (k + 1))) (by rw [HSP.out]; simp only [List.append_assoc]) [] _ [] (by rw [HU.out]; rfl)) HS2.out.1 HS2.out.2).mono ?_
            rintro e w5 ⟨rfl, hB5, hS5, hK5⟩
            have HS5 : Aside0 (Now St (((usesE (l.take k)) ++ useE x).foldl step s) w0 w5) := ⟨hB5, by rw [HU.out, List.foldl_append]; exact hS5⟩
            have hb5 := hK5 _ _ _ _ (by first | exact .inl rfl | exact .inr rfl) HB.out
            have z4 := blk_cell hb5 4
            have HK5 := Aside0.mk (HK2.out.trans hK5)
            have HB5 := Aside0.mk hb5
            replace z4 : w5.cell? ⟨wo.heap.size, 4, none⟩ = _ := z4.trans rfl
            clear hB5 hS5 hK5 hb5 x0 x1 x2 x3 x4 HS2 HK2 HB
            go_wp2_with (fail)
            refine (IH.out x.f4 A4 c4 _ _ (by have := HN.out; have := HZf4.out; omega) HCf4.out (by omega) HS5.out (okAt HOK.out (A := usesE (l.take k) ++ useE x) (M := usesE x.f4) (B := usesE (l.drop (k + 1))) (by rw [HSP.out]; simp only [List.append_assoc]))).mono ?_
            rintro e w6 ⟨rfl, hB6, hS6, hK6⟩
            have HS6 : Aside0 (Now St ((usesE (l.take k) ++ useE x ++ usesE x.f4).foldl step s) w0 w6) := ⟨hB6, by rw [List.foldl_append]; exact hS6⟩
            have HK6 := Aside0.mk (HK5.out.trans hK6)
            clear hB6 hS6 hK6
            go_wp2_with (fail)
            go_roundw
            case rel => exact ⟨k + 1, hlt, by go_num, ⟨by rw [HT.out]; simpa only [List.append_assoc] using HS6.out⟩, HK6⟩
            case measure => simp [intOf]; omega
          · skip
            by_cases h4 : x.f0 = 4
            · have hU : useE x = [⟨x.f3, 4, x.f4.length⟩] := by unfold useE; rw [if_neg h2]; rw [if_neg h3]; rw [if_pos h4]
              have HU := Aside0.mk hU
              clear hU
              rw [h4] at HB HS2 HK2 x0
              clear h2 h3 h4
              go_wp2_with (fail)
              refine (HD.out.call ((usesE (l.take k)).foldl step s) ⟨x.f3, 4, x.f4.length⟩ _ (okAt HOK.out (A := usesE (l.take k)) (M := useE x) (B := usesE x.f4 ++ usesE (l.drop (k + 1))) (by rw [HSP.out]; simp only [List.append_assoc]) [] _ [] (by rw [HU.out]; rfl)) HS2.out.1 HS2.out.2).mono ?_
              rintro e w5 ⟨rfl, hB5, hS5, hK5⟩
              have HS5 : Aside0 (Now St (((usesE (l.take k)) ++ useE x).foldl step s) w0 w5) := ⟨hB5, by rw [HU.out, List.foldl_append]; exact hS5⟩
              have hb5 := hK5 _ _ _ _ (by first | exact .inl rfl | exact .inr rfl) HB.out
              have z4 := blk_cell hb5 4
              have HK5 := Aside0.mk (HK2.out.trans hK5)
              have HB5 := Aside0.mk hb5
              replace z4 : w5.cell? ⟨wo.heap.size, 4, none⟩ = _ := z4.trans rfl
              clear hB5 hS5 hK5 hb5 x0 x1 x2 x3 x4 HS2 HK2 HB
              go_wp2_with (fail)
              refine (IH.out x.f4 A4 c4 _ _ (by have := HN.out; have := HZf4.out; omega) HCf4.out (by omega) HS5.out (okAt HOK.out (A := usesE (l.take k) ++ useE x) (M := usesE x.f4) (B := usesE (l.drop (k + 1))) (by rw [HSP.out]; simp only [List.append_assoc]))).mono ?_
              rintro e w6 ⟨rfl, hB6, hS6, hK6⟩
              have HS6 : Aside0 (Now St ((usesE (l.take k) ++ useE x ++ usesE x.f4).foldl step s) w0 w6) := ⟨hB6, by rw [List.foldl_append]; exact hS6⟩
              have HK6 := Aside0.mk (HK5.out.trans hK6)
              clear hB6 hS6 hK6
              go_wp2_with (fail)
              go_roundw
              case rel => exact ⟨k + 1, hlt, by go_num, ⟨by rw [HT.out]; simpa only [List.append_assoc] using HS6.out⟩, HK6⟩
              case measure => simp [intOf]; omega
            · skip
              have hU : useE x = [] := by unfold useE; rw [if_neg h2]; rw [if_neg h3]; rw [if_neg h4]
              have HU := Aside0.mk hU
              have HS5 : Aside0 (Now St (((usesE (l.take k)) ++ useE x).foldl step s) w0 _) := ⟨HS2.out.1, by rw [HU.out, List.append_nil]; exact HS2.out.2⟩
              have t2 : (x.f0 == 2) = false := by simpa using h2
              have t3 : (x.f0 == 3) = false := by simpa using h3
              have t4 : (x.f0 == 4) = false := by simpa using h4
              clear hU HS2 h2 h3 h4
              go_wp2_with (fail)
              refine (IH.out x.f4 A4 c4 _ _ (by have := HN.out; have := HZf4.out; omega) HCf4.out (by omega) HS5.out (okAt HOK.out (A := usesE (l.take k) ++ useE x) (M := usesE x.f4) (B := usesE (l.drop (k + 1))) (by rw [HSP.out]; simp only [List.append_assoc]))).mono ?_
              rintro e w6 ⟨rfl, hB6, hS6, hK6⟩
              have HS6 : Aside0 (Now St ((usesE (l.take k) ++ useE x ++ usesE x.f4).foldl step s) w0 w6) := ⟨hB6, by rw [List.foldl_append]; exact hS6⟩
              have HK6 := Aside0.mk (HK2.out.trans hK6)
              clear hB6 hS6 hK6
              go_wp2_with (fail)
              go_roundw
              case rel => exact ⟨k + 1, hlt, by go_num, ⟨by rw [HT.out]; simpa only [List.append_assoc] using HS6.out⟩, HK6⟩
              case measure => simp [intOf]; omega
      · obtain rfl : k = l.length := by omega
        rw [List.take_length] at HS
        go_wp2_with (fail)
        first | go_end0 | refine bodyPost_ret (results_none rfl _ _ _) rfl ?_
        exact ⟨rfl, HS.out.1, HS.out.2, HK.out⟩
set_option maxHeartbeats 8000000 in
set_option maxRecDepth 100000 in
theorem stmts_calls {σ : Type} {g b1 b2 b3 : Nat} {St : σ → World → Prop} {step : σ → U → σ} {Ok : σ → U → Prop} {w0 : World} (D : Does g b1 b2 b3 St step Ok w0) (N : Nat) :
    ∀ (l : List S33) (A : Option Addr) (c : Nat) (s : σ) (W : World), SizeOf.sizeOf l ≤ N → k33.C w0 A l.length l → l.length ≤ c → Now St s w0 W → (∀ pre u post, usesS l = pre ++ u :: post → Ok (pre.foldl step s) u) →
    Calls Try.prog 39 #[.slice A l.length c, .func (.func g) #[] #[.pointer (some ⟨b1, 0, none⟩), .pointer (some ⟨b2, 0, none⟩), .pointer (some ⟨b3, 0, none⟩)]] W (Did St ((usesS l).foldl step s) w0 W) := by
  induction N with
  | zero =>
    intro l A c s W hN
    cases l <;> simp at hN
  | succ N ih =>
    intro l A c s W hN hr hc hn hok
    have HN := Aside0.mk hN
    have HR := Aside0.mk hr
    have HS := Aside0.mk hn
    have HOK := Aside0.mk hok
    have IH := Aside0.mk ih
    have HD := Aside0.mk D
    have eg := D.eg
    have hmx := Kd.C_max hr
    clear hN hr hn hok ih D
    go_enter Try.func39, Try.ntmps39
    go_wp2_with (fail)
    go_loopw [8] (fun v8 wr => ∃ k : Nat, k ≤ l.length ∧ v8 = .int .i64 k ∧ Aside0 (Now St ((usesS (l.take k)).foldl step s) w0 wr) ∧ Aside0 (Keep W wr)) (fun v8 _ => l.length - (intOf v8).toNat)
    case atStart => exact ⟨0, Nat.zero_le _, rfl, ⟨by simp only [List.take_zero, usesS_nil, List.foldl_nil]; exact HS.out⟩, ⟨Keep.refl _⟩⟩
    case round =>
      clear HS
      obtain ⟨k, hk, rfl, HS, HK⟩ := hrel
      obtain ⟨wo, rfl⟩ : ∃ wo : World, wo = wr := ⟨_, rfl⟩
      by_cases hlt : k < l.length
      · obtain ⟨ad, A2, c2, A3, c3, A4, c4, rfl, y0, y1, y2, y3, y4, hl2, hCf2, hl3, hCf3, hl4, hCf4⟩ := at_T33 HR.out (k : Int) (by omega) (by omega)
        rw [Int.toNat_natCast] at y0 y1 y2 y3 y4
        have HT := Aside0.mk (usesS_take hlt)
        have HSP := Aside0.mk (usesS_split hlt)
        have HZf3 := Aside0.mk (size33_f3 hlt)
        have HZf4 := Aside0.mk (size33_f4 hlt)
        have HCf2 := Aside0.mk hCf2
        have hmxf2 := Kd.C_max hCf2
        have HCf3 := Aside0.mk hCf3
        have hmxf3 := Kd.C_max hCf3
        have HCf4 := Aside0.mk hCf4
        have hmxf4 := Kd.C_max hCf4
        clear hCf2 hCf3 hCf4
        generalize rd_T33 l (k : Int) = x at *
        have x0 := pw_cell_below HS.out.1 y0
        have x1 := pw_cell_below HS.out.1 y1
        have x2 := pw_cell_below HS.out.1 y2
        have x3 := pw_cell_below HS.out.1 y3
        have x4 := pw_cell_below HS.out.1 y4
        have HB := Aside0.mk (blk_new wo (.cells #[.int .i64 x.f0, .string x.f1, .slice A2 x.f2.length c2, .slice A3 x.f3.length c3, .slice A4 x.f4.length c4] 33))
        have HS2 := Aside0.mk (HD.out.now HS.out (below_alloc (Below.refl _ _) (.cells #[.int .i64 x.f0, .string x.f1, .slice A2 x.f2.length c2, .slice A3 x.f3.length c3, .slice A4 x.f4.length c4] 33)))
        have HK2 := Aside0.mk (HK.out.trans (Keep.below (below_alloc (Below.refl _ _) (.cells #[.int .i64 x.f0, .string x.f1, .slice A2 x.f2.length c2, .slice A3 x.f3.length c3, .slice A4 x.f4.length c4] 33))))
        clear y0 y1 y2 y3 y4 HS HK
        by_cases h1 : x.f0 = 1
        · have hU : useS x = [⟨x.f1, 2, -1⟩] := by unfold useS; rw [if_pos h1]
          have HU := Aside0.mk hU
          clear hU
          rw [h1] at HB HS2 HK2 x0
          clear h1
          go_wp2_with (fail)
          refine (HD.out.call ((usesS (l.take k)).foldl step s) ⟨x.f1, 2, -1⟩ _ (okAt HOK.out (A := usesS (l.take k)) (M := useS x) (B := usesE x.f2 ++ usesS x.f3 ++ usesS x.f4 ++ usesS (l.drop (k + 1))) (by rw [HSP.out]; simp only [List.append_assoc]) [] _ [] (by rw [HU.out]; rfl)) HS2.out.1 HS2.out.2).mono ?_
          rintro e w5 ⟨rfl, hB5, hS5, hK5⟩
          have HS5 : Aside0 (Now St (((usesS (l.take k)) ++ useS x).foldl step s) w0 w5) := ⟨hB5, by rw [HU.out, List.foldl_append]; exact hS5⟩
          have hb5 := hK5 _ _ _ _ (by first | exact .inl rfl | exact .inr rfl) HB.out
          have z2 := blk_cell hb5 2
          have z3 := blk_cell hb5 3
          have z4 := blk_cell hb5 4
          have HK5 := Aside0.mk (HK2.out.trans hK5)
          have HB5 := Aside0.mk hb5
          replace z2 : w5.cell? ⟨wo.heap.size, 2, none⟩ = _ := z2.trans rfl
          replace z3 : w5.cell? ⟨wo.heap.size, 3, none⟩ = _ := z3.trans rfl
          replace z4 : w5.cell? ⟨wo.heap.size, 4, none⟩ = _ := z4.trans rfl
          clear hB5 hS5 hK5 hb5 x0 x1 x2 x3 x4 HS2 HK2 HB
          go_wp2_with (fail)
          refine (exprs_calls HD.out _ x.f2 A2 c2 _ _ (Nat.le_refl _) HCf2.out (by omega) HS5.out (okAt HOK.out (A := usesS (l.take k) ++ useS x) (M := usesE x.f2) (B := usesS x.f3 ++ usesS x.f4 ++ usesS (l.drop (k + 1))) (by rw [HSP.out]; simp only [List.append_assoc]))).mono ?_
          rintro e w6 ⟨rfl, hB6, hS6, hK6⟩
          have HS6 : Aside0 (Now St ((usesS (l.take k) ++ useS x ++ usesE x.f2).foldl step s) w0 w6) := ⟨hB6, by rw [List.foldl_append]; exact hS6⟩
          have HK6 := Aside0.mk (HK5.out.trans hK6)
          have hb6 := hK6 _ _ _ _ (by first | exact .inl rfl | exact .inr rfl) HB5.out
          have z2 : w6.cell? ⟨wo.heap.size, 2, none⟩ = _ := (blk_cell hb6 2).trans rfl
          have z3 : w6.cell? ⟨wo.heap.size, 3, none⟩ = _ := (blk_cell hb6 3).trans rfl
          have z4 : w6.cell? ⟨wo.heap.size, 4, none⟩ = _ := (blk_cell hb6 4).trans rfl
          have HB6 := Aside0.mk hb6
          clear hb6
          clear hB6 hS6 hK6
          go_wp2_with (fail)
          refine (IH.out x.f3 A3 c3 _ _ (by have := HN.out; have := HZf3.out; omega) HCf3.out (by omega) HS6.out (okAt HOK.out (A := usesS (l.take k) ++ useS x ++ usesE x.f2) (M := usesS x.f3) (B := usesS x.f4 ++ usesS (l.drop (k + 1))) (by rw [HSP.out]; simp only [List.append_assoc]))).mono ?_
          rintro e w61 ⟨rfl, hB6, hS6, hK6⟩
          have HS61 : Aside0 (Now St ((usesS (l.take k) ++ useS x ++ usesE x.f2 ++ usesS x.f3).foldl step s) w0 w61) := ⟨hB6, by rw [List.foldl_append]; exact hS6⟩
          have HK61 := Aside0.mk (HK6.out.trans hK6)
          have hb6 := hK6 _ _ _ _ (by first | exact .inl rfl | exact .inr rfl) HB6.out
          have z2 : w61.cell? ⟨wo.heap.size, 2, none⟩ = _ := (blk_cell hb6 2).trans rfl
          have z3 : w61.cell? ⟨wo.heap.size, 3, none⟩ = _ := (blk_cell hb6 3).trans rfl
          have z4 : w61.cell? ⟨wo.heap.size, 4, none⟩ = _ := (blk_cell hb6 4).trans rfl
          have HB61 := Aside0.mk hb6
          clear hb6
          clear hB6 hS6 hK6
          go_wp2_with (fail)
          refine (IH.out x.f4 A4 c4 _ _ (by have := HN.out; have := HZf4.out; omega) HCf4.out (by omega) HS61.out (okAt HOK.out (A := usesS (l.take k) ++ useS x ++ usesE x.f2 ++ usesS x.f3) (M := usesS x.f4) (B := usesS (l.drop (k + 1))) (by rw [HSP.out]; simp only [List.append_assoc]))).mono ?_
          rintro e w62 ⟨rfl, hB6, hS6, hK6⟩
          have HS62 : Aside0 (Now St ((usesS (l.take k) ++ useS x ++ usesE x.f2 ++ usesS x.f3 ++ usesS x.f4).foldl step s) w0 w62) := ⟨hB6, by rw [List.foldl_append]; exact hS6⟩
          have HK62 := Aside0.mk (HK61.out.trans hK6)
          clear hB6 hS6 hK6
          go_wp2_with (fail)
          go_roundw
          case rel => exact ⟨k + 1, hlt, by go_num, ⟨by rw [HT.out]; simpa only [List.append_assoc] using HS62.out⟩, HK62⟩
          case measure => simp [intOf]; omega
        · skip
          by_cases h2 : x.f0 = 2
          · have hU : useS x = [⟨x.f1, 3, -1⟩] := by unfold useS; rw [if_neg h1]; rw [if_pos h2]
            have HU := Aside0.mk hU
            clear hU
            rw [h2] at HB HS2 HK2 x0
            clear h1 h2
            go_wp2_with (fail)
            refine (HD.out.call ((usesS (l.take k)).foldl step s) ⟨x.f1, 3, -1⟩ _ (okAt HOK.out (A := usesS (l.take k)) (M := useS x) (B := usesE x.f2 ++ usesS x.f3 ++ usesS x.f4 ++ usesS (l.drop (k + 1))) (by rw [HSP.out]; simp only [List.append_assoc]) [] _ [] (by rw [HU.out]; rfl)) HS2.out.1 HS2.out.2).mono ?_
            rintro e w5 ⟨rfl, hB5, hS5, hK5⟩
            have HS5 : Aside0 (Now St (((usesS (l.take k)) ++ useS x).foldl step s) w0 w5) := ⟨hB5, by rw [HU.out, List.foldl_append]; exact hS5⟩
            have hb5 := hK5 _ _ _ _ (by first | exact .inl rfl | exact .inr rfl) HB.out
            have z2 := blk_cell hb5 2
            have z3 := blk_cell hb5 3
            have z4 := blk_cell hb5 4
            have HK5 := Aside0.mk (HK2.out.trans hK5)
            have HB5 := Aside0.mk hb5
            replace z2 : w5.cell? ⟨wo.heap.size, 2, none⟩ = _ := z2.trans rfl
            replace z3 : w5.cell? ⟨wo.heap.size, 3, none⟩ = _ := z3.trans rfl
            replace z4 : w5.cell? ⟨wo.heap.size, 4, none⟩ = _ := z4.trans rfl
            clear hB5 hS5 hK5 hb5 x0 x1 x2 x3 x4 HS2 HK2 HB
            go_wp2_with (fail)
            refine (exprs_calls HD.out _ x.f2 A2 c2 _ _ (Nat.le_refl _) HCf2.out (by omega) HS5.out (okAt HOK.out (A := usesS (l.take k) ++ useS x) (M := usesE x.f2) (B := usesS x.f3 ++ usesS x.f4 ++ usesS (l.drop (k + 1))) (by rw [HSP.out]; simp only [List.append_assoc]))).mono ?_
            rintro e w6 ⟨rfl, hB6, hS6, hK6⟩
            have HS6 : Aside0 (Now St ((usesS (l.take k) ++ useS x ++ usesE x.f2).foldl step s) w0 w6) := ⟨hB6, by rw [List.foldl_append]; exact hS6⟩
            have HK6 := Aside0.mk (HK5.out.trans hK6)
            have hb6 := hK6 _ _ _ _ (by first | exact .inl rfl | exact .inr rfl) HB5.out
            have z2 : w6.cell? ⟨wo.heap.size, 2, none⟩ = _ := (blk_cell hb6 2).trans rfl
            have z3 : w6.cell? ⟨wo.heap.size, 3, none⟩ = _ := (blk_cell hb6 3).trans rfl
            have z4 : w6.cell? ⟨wo.heap.size, 4, none⟩ = _ := (blk_cell hb6 4).trans rfl
            have HB6 := Aside0.mk hb6
            clear hb6
            clear hB6 hS6 hK6
            go_wp2_with (fail)
            refine (IH.out x.f3 A3 c3 _ _ (by have := HN.out; have := HZf3.out; omega) HCf3.out (by omega) HS6.out (okAt HOK.out (A := usesS (l.take k) ++ useS x ++ usesE x.f2) (M := usesS x.f3) (B := usesS x.f4 ++ usesS (l.drop (k + 1))) (by rw [HSP.out]; simp only [List.append_assoc]))).mono ?_
            rintro e w61 ⟨rfl, hB6, hS6, hK6⟩
            have HS61 : Aside0 (Now St ((usesS (l.take k) ++ useS x ++ usesE x.f2 ++ usesS x.f3).foldl step s) w0 w61) := ⟨hB6, by rw [List.foldl_append]; exact hS6⟩
            have HK61 := Aside0.mk (HK6.out.trans hK6)
            have hb6 := hK6 _ _ _ _ (by first | exact .inl rfl | exact .inr rfl) HB6.out
            have z2 : w61.cell? ⟨wo.heap.size, 2, none⟩ = _ := (blk_cell hb6 2).trans rfl
            have z3 : w61.cell? ⟨wo.heap.size, 3, none⟩ = _ := (blk_cell hb6 3).trans rfl
            have z4 : w61.cell? ⟨wo.heap.size, 4, none⟩ = _ := (blk_cell hb6 4).trans rfl
            have HB61 := Aside0.mk hb6
            clear hb6
            clear hB6 hS6 hK6
            go_wp2_with (fail)
            refine (IH.out x.f4 A4 c4 _ _ (by have := HN.out; have := HZf4.out; omega) HCf4.out (by omega) HS61.out (okAt HOK.out (A := usesS (l.take k) ++ useS x ++ usesE x.f2 ++ usesS x.f3) (M := usesS x.f4) (B := usesS (l.drop (k + 1))) (by rw [HSP.out]; simp only [List.append_assoc]))).mono ?_
            rintro e w62 ⟨rfl, hB6, hS6, hK6⟩
            have HS62 : Aside0 (Now St ((usesS (l.take k) ++ useS x ++ usesE x.f2 ++ usesS x.f3 ++ usesS x.f4).foldl step s) w0 w62) := ⟨hB6, by rw [List.foldl_append]; exact hS6⟩
            have HK62 := Aside0.mk (HK61.out.trans hK6)
            clear hB6 hS6 hK6
            go_wp2_with (fail)
            go_roundw
            case rel => exact ⟨k + 1, hlt, by go_num, ⟨by rw [HT.out]; simpa only [List.append_assoc] using HS62.out⟩, HK62⟩
            case measure => simp [intOf]; omega
          · skip
            by_cases h6 : x.f0 = 6
            · have hU : useS x = [⟨x.f1, 4, x.f2.length⟩] := by unfold useS; rw [if_neg h1]; rw [if_neg h2]; rw [if_pos h6]
              have HU := Aside0.mk hU
              clear hU
              rw [h6] at HB HS2 HK2 x0
              clear h1 h2 h6
              go_wp2_with (fail)
              refine (HD.out.call ((usesS (l.take k)).foldl step s) ⟨x.f1, 4, x.f2.length⟩ _ (okAt HOK.out (A := usesS (l.take k)) (M := useS x) (B := usesE x.f2 ++ usesS x.f3 ++ usesS x.f4 ++ usesS (l.drop (k + 1))) (by rw [HSP.out]; simp only [List.append_assoc]) [] _ [] (by rw [HU.out]; rfl)) HS2.out.1 HS2.out.2).mono ?_
              rintro e w5 ⟨rfl, hB5, hS5, hK5⟩
              have HS5 : Aside0 (Now St (((usesS (l.take k)) ++ useS x).foldl step s) w0 w5) := ⟨hB5, by rw [HU.out, List.foldl_append]; exact hS5⟩
              have hb5 := hK5 _ _ _ _ (by first | exact .inl rfl | exact .inr rfl) HB.out
              have z2 := blk_cell hb5 2
              have z3 := blk_cell hb5 3
              have z4 := blk_cell hb5 4
              have HK5 := Aside0.mk (HK2.out.trans hK5)
              have HB5 := Aside0.mk hb5
              replace z2 : w5.cell? ⟨wo.heap.size, 2, none⟩ = _ := z2.trans rfl
              replace z3 : w5.cell? ⟨wo.heap.size, 3, none⟩ = _ := z3.trans rfl
              replace z4 : w5.cell? ⟨wo.heap.size, 4, none⟩ = _ := z4.trans rfl
              clear hB5 hS5 hK5 hb5 x0 x1 x2 x3 x4 HS2 HK2 HB
              go_wp2_with (fail)
              refine (exprs_calls HD.out _ x.f2 A2 c2 _ _ (Nat.le_refl _) HCf2.out (by omega) HS5.out (okAt HOK.out (A := usesS (l.take k) ++ useS x) (M := usesE x.f2) (B := usesS x.f3 ++ usesS x.f4 ++ usesS (l.drop (k + 1))) (by rw [HSP.out]; simp only [List.append_assoc]))).mono ?_
              rintro e w6 ⟨rfl, hB6, hS6, hK6⟩
              have HS6 : Aside0 (Now St ((usesS (l.take k) ++ useS x ++ usesE x.f2).foldl step s) w0 w6) := ⟨hB6, by rw [List.foldl_append]; exact hS6⟩
              have HK6 := Aside0.mk (HK5.out.trans hK6)
              have hb6 := hK6 _ _ _ _ (by first | exact .inl rfl | exact .inr rfl) HB5.out
              have z2 : w6.cell? ⟨wo.heap.size, 2, none⟩ = _ := (blk_cell hb6 2).trans rfl
              have z3 : w6.cell? ⟨wo.heap.size, 3, none⟩ = _ := (blk_cell hb6 3).trans rfl
              have z4 : w6.cell? ⟨wo.heap.size, 4, none⟩ = _ := (blk_cell hb6 4).trans rfl
              have HB6 := Aside0.mk hb6
              clear hb6
              clear hB6 hS6 hK6
              go_wp2_with (fail)
              refine (IH.out x.f3 A3 c3 _ _ (by have := HN.out; have := HZf3.out; omega) HCf3.out (by omega) HS6.out (okAt HOK.out (A := usesS (l.take k) ++ useS x ++ usesE x.f2) (M := usesS x.f3) (B := usesS x.f4 ++ usesS (l.drop (k + 1))) (by rw [HSP.out]; simp only [List.append_assoc]))).mono ?_
              rintro e w61 ⟨rfl, hB6, hS6, hK6⟩
              have HS61 : Aside0 (Now St ((usesS (l.take k) ++ useS x ++ usesE x.f2 ++ usesS x.f3).foldl step s) w0 w61) := ⟨hB6, by rw [List.foldl_append]; exact hS6⟩
              have HK61 := Aside0.mk (HK6.out.trans hK6)
              have hb6 := hK6 _ _ _ _ (by first | exact .inl rfl | exact .inr rfl) HB6.out
              have z2 : w61.cell? ⟨wo.heap.size, 2, none⟩ = _ := (blk_cell hb6 2).trans rfl
              have z3 : w61.cell? ⟨wo.heap.size, 3, none⟩ = _ := (blk_cell hb6 3).trans rfl
              have z4 : w61.cell? ⟨wo.heap.size, 4, none⟩ = _ := (blk_cell hb6 4).trans rfl
              have HB61 := Aside0.mk hb6
              clear hb6
              clear hB6 hS6 hK6
              go_wp2_with (fail)
              refine (IH.out x.f4 A4 c4 _ _ (by have := HN.out; have := HZf4.out; omega) HCf4.out (by omega) HS61.out (okAt HOK.out (A := usesS (l.take k) ++ useS x ++ usesE x.f2 ++ usesS x.f3) (M := usesS x.f4) (B := usesS (l.drop (k + 1))) (by rw [HSP.out]; simp only [List.append_assoc]))).mono ?_
              rintro e w62 ⟨rfl, hB6, hS6, hK6⟩
              have HS62 : Aside0 (Now St ((usesS (l.take k) ++ useS x ++ usesE x.f2 ++ usesS x.f3 ++ usesS x.f4).foldl step s) w0 w62) := ⟨hB6, by rw [List.foldl_append]; exact hS6⟩
              have HK62 := Aside0.mk (HK61.out.trans hK6)
              clear hB6 hS6 hK6
              go_wp2_with (fail)
              go_roundw
              case rel => exact ⟨k + 1, hlt, by go_num, ⟨by rw [HT.out]; simpa only [List.append_assoc] using HS62.out⟩, HK62⟩
              case measure => simp [intOf]; omega
            · skip
              have hU : useS x = [] := by unfold useS; rw [if_neg h1]; rw [if_neg h2]; rw [if_neg h6]
              have HU := Aside0.mk hU
              have HS5 : Aside0 (Now St (((usesS (l.take k)) ++ useS x).foldl step s) w0 _) := ⟨HS2.out.1, by rw [HU.out, List.append_nil]; exact HS2.out.2⟩
              have t1 : (x.f0 == 1) = false := by simpa using h1
              have t2 : (x.f0 == 2) = false := by simpa using h2
              have t6 : (x.f0 == 6) = false := by simpa using h6
              clear hU HS2 h1 h2 h6
              go_wp2_with (fail)
              refine (exprs_calls HD.out _ x.f2 A2 c2 _ _ (Nat.le_refl _) HCf2.out (by omega) HS5.out (okAt HOK.out (A := usesS (l.take k) ++ useS x) (M := usesE x.f2) (B := usesS x.f3 ++ usesS x.f4 ++ usesS (l.drop (k + 1))) (by rw [HSP.out]; simp only [List.append_assoc]))).mono ?_
              rintro e w6 ⟨rfl, hB6, hS6, hK6⟩
              have HS6 : Aside0 (Now St ((usesS (l.take k) ++ useS x ++ usesE x.f2).foldl step s) w0 w6) := ⟨hB6, by rw [List.foldl_append]; exact hS6⟩
              have HK6 := Aside0.mk (HK2.out.trans hK6)
              have hb6 := hK6 _ _ _ _ (by first | exact .inl rfl | exact .inr rfl) HB.out
              have z2 : w6.cell? ⟨wo.heap.size, 2, none⟩ = _ := (blk_cell hb6 2).trans rfl
              have z3 : w6.cell? ⟨wo.heap.size, 3, none⟩ = _ := (blk_cell hb6 3).trans rfl
              have z4 : w6.cell? ⟨wo.heap.size, 4, none⟩ = _ := (blk_cell hb6 4).trans rfl
              have HB6 := Aside0.mk hb6
              clear hb6
              clear hB6 hS6 hK6
              go_wp2_with (fail)
              refine (IH.out x.f3 A3 c3 _ _ (by have := HN.out; have := HZf3.out; omega) HCf3.out (by omega) HS6.out (okAt HOK.out (A := usesS (l.take k) ++ useS x ++ usesE x.f2) (M := usesS x.f3) (B := usesS x.f4 ++ usesS (l.drop (k + 1))) (by rw [HSP.out]; simp only [List.append_assoc]))).mono ?_
              rintro e w61 ⟨rfl, hB6, hS6, hK6⟩
              have HS61 : Aside0 (Now St ((usesS (l.take k) ++ useS x ++ usesE x.f2 ++ usesS x.f3).foldl step s) w0 w61) := ⟨hB6, by rw [List.foldl_append]; exact hS6⟩
              have HK61 := Aside0.mk (HK6.out.trans hK6)
              have hb6 := hK6 _ _ _ _ (by first | exact .inl rfl | exact .inr rfl) HB6.out
              have z2 : w61.cell? ⟨wo.heap.size, 2, none⟩ = _ := (blk_cell hb6 2).trans rfl
              have z3 : w61.cell? ⟨wo.heap.size, 3, none⟩ = _ := (blk_cell hb6 3).trans rfl
              have z4 : w61.cell? ⟨wo.heap.size, 4, none⟩ = _ := (blk_cell hb6 4).trans rfl
              have HB61 := Aside0.mk hb6
              clear hb6
              clear hB6 hS6 hK6
              go_wp2_with (fail)
              refine (IH.out x.f4 A4 c4 _ _ (by have := HN.out; have := HZf4.out; omega) HCf4.out (by omega) HS61.out (okAt HOK.out (A := usesS (l.take k) ++ useS x ++ usesE x.f2 ++ usesS x.f3) (M := usesS x.f4) (B := usesS (l.drop (k + 1))) (by rw [HSP.out]; simp only [List.append_assoc]))).mono ?_
              rintro e w62 ⟨rfl, hB6, hS6, hK6⟩
              have HS62 : Aside0 (Now St ((usesS (l.take k) ++ useS x ++ usesE x.f2 ++ usesS x.f3 ++ usesS x.f4).foldl step s) w0 w62) := ⟨hB6, by rw [List.foldl_append]; exact hS6⟩
              have HK62 := Aside0.mk (HK61.out.trans hK6)
              clear hB6 hS6 hK6
              go_wp2_with (fail)
              go_roundw
              case rel => exact ⟨k + 1, hlt, by go_num, ⟨by rw [HT.out]; simpa only [List.append_assoc] using HS62.out⟩, HK62⟩
              case measure => simp [intOf]; omega
      · obtain rfl : k = l.length := by omega
        rw [List.take_length] at HS
        go_wp2_with (fail)
        first | go_end0 | refine bodyPost_ret (results_none rfl _ _ _) rfl ?_
        exact ⟨rfl, HS.out.1, HS.out.2, HK.out⟩
end Go.Proofs.Ytdpncghnlkgkdaa.H

