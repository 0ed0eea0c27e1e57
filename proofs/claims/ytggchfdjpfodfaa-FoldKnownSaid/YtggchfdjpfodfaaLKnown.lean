/- FoldKnown, walked: it returns true. Condition: the arguments are words and bytes, as their types say. -/
import Derived.Test.YtggchfdjpfodfaaPKnown
import Derived.Test.YtggchfdjpfodfaaH48
set_option linter.unusedVariables false
set_option linter.unusedSimpArgs false
namespace Go.Proofs.Ytggchfdjpfodfaa.H
open Go.RowKit Go.Proofs.YtggchfdjpfodfaaW.PrintWords Go.Proofs.YtggchfdjpfodfaaW.PrintLast Go.Proofs.YtggchfdjpfodfaaW.PrintMore Go.Proofs.Ytggchfdjpfodfaa.PFoldOf
open Sp

theorem rd_memI {l : List Int} {k : Nat} (h : k < l.length) : rd l (k : Int) ∈ l := by
  unfold rd
  rw [Int.toNat_natCast, List.getD_eq_getElem?_getD, List.getElem?_eq_getElem h]
  exact List.getElem_mem h
theorem take_rdI {l : List Int} {k : Nat} (h : k < l.length) : l.take (k + 1) = l.take k ++ [rd l (k : Int)] := by
  unfold rd
  rw [Int.toNat_natCast, List.getD_eq_getElem?_getD, List.getElem?_eq_getElem h, List.take_succ_eq_append_getElem h]
  rfl
theorem drop_rd {l : List Int} {k : Nat} (h : k < l.length) : l.drop k = rd l (k : Int) :: l.drop (k + 1) := by
  unfold rd
  rw [Int.toNat_natCast, List.getD_eq_getElem?_getD, List.getElem?_eq_getElem h, List.drop_eq_getElem_cons h]
  rfl
theorem okK {a b : Int} (ha : W32 a) (hb : W32 b) (os : List Int) : ∀ q ∈ [(⟨lK a b os, 3, 0, 0, 0⟩ : S45)], ∀ t ∈ q.f0, OkI t := by
  intro q hq t ht
  obtain rfl := List.mem_singleton.1 hq
  simp only [lK, List.mem_cons, List.mem_map] at ht
  rcases ht with rfl | rfl | ⟨o, _, rfl⟩
  · exact ⟨rfl, rfl, rfl, ha⟩
  · exact ⟨rfl, rfl, rfl, hb⟩
  · exact ⟨rfl, rfl, rfl, w0⟩
set_option maxHeartbeats 2000000 in
set_option maxRecDepth 100000 in
theorem known_calls (a b : Int) (A : Option Addr) (c : Nat) (os : List Int) (w : World) (hr : Kd.C (Kd.int .u8) w A os.length os) (hc : os.length ≤ c) (ha : W32 a) (hb : W32 b) (ho : ∀ o ∈ os, 0 ≤ o ∧ o ≤ 255) :
    Calls Try.prog 6 #[.int .u32 a, .int .u32 b, .slice A os.length c] w fun e w' => e = .returned (.bool true) ∧ Below w.heap.size w w' := by
  have hu29 := Try.underlying29
  have hu32 := Try.underlying32
  have hu45 := Try.underlying45
  have hu48 := Try.underlying48
  by_cases hlong : 20 < os.length
  · go_enter Try.func6, Try.ntmps6
    go_wp2_with (fail)
    refine (awake_calls _).mono ?_
    rintro e w1 ⟨rfl, hb1⟩
    go_wp2_with (fail)
    go_ret
    exact ⟨rfl, hb1⟩
  have hln : os.length ≤ 20 := by omega
  clear hlong
  go_enter Try.func6, Try.ntmps6
  go_wp2_with (fail)
  refine (awake_calls _).mono ?_
  rintro e w1 ⟨rfl, hb1⟩
  have ol := own48_lit w1 w.heap.size hb1.size [⟨1, 0, 0, 0, 0, 0, 0, a⟩, ⟨1, 1, 0, 0, 0, 0, 0, b⟩] (by simp) #[.int .i64 1, .int .i64 0, .int .i64 0, .int .i64 0, .int .i64 0, .int .i64 0, .int .i64 0, .int .u32 a, .int .i64 1, .int .i64 1, .int .i64 0, .int .i64 0, .int .i64 0, .int .i64 0, .int .i64 0, .int .u32 b] rfl 2 rfl
  have bl := blk_new w1 (.cells #[.int .i64 1, .int .i64 0, .int .i64 0, .int .i64 0, .int .i64 0, .int .i64 0, .int .i64 0, .int .u32 a, .int .i64 1, .int .i64 1, .int .i64 0, .int .i64 0, .int .i64 0, .int .i64 0, .int .i64 0, .int .u32 b] 48)
  have hbl := below_alloc hb1 (.cells #[.int .i64 1, .int .i64 0, .int .i64 0, .int .i64 0, .int .i64 0, .int .i64 0, .int .i64 0, .int .u32 a, .int .i64 1, .int .i64 1, .int .i64 0, .int .i64 0, .int .i64 0, .int .i64 0, .int .i64 0, .int .u32 b] 48)
  have hsl : (w1.alloc (.cells #[.int .i64 1, .int .i64 0, .int .i64 0, .int .i64 0, .int .i64 0, .int .i64 0, .int .i64 0, .int .u32 a, .int .i64 1, .int .i64 1, .int .i64 0, .int .i64 0, .int .i64 0, .int .i64 0, .int .i64 0, .int .u32 b] 48)).heap.size = w1.heap.size + 1 := by simp
  have oe := own48_lit (w1.alloc (.cells #[.int .i64 1, .int .i64 0, .int .i64 0, .int .i64 0, .int .i64 0, .int .i64 0, .int .i64 0, .int .u32 a, .int .i64 1, .int .i64 1, .int .i64 0, .int .i64 0, .int .i64 0, .int .i64 0, .int .i64 0, .int .u32 b] 48)) w.heap.size hbl.size [] (by simp) #[] rfl 0 rfl
  rw [hsl] at oe
  have ol2 := own48_alloc ol (.cells #[] 48)
  have bl2 := blk_alloc bl (.cells #[] 48)
  have hbl2 := below_alloc hbl (.cells #[] 48)
  go_wp2_with ((with_reducible refine gate_builtin (b := .append) (xs := #[.tmp 28, .tmp 29]) rfl ?_); refine app48 rfl (.tmp 28) (.tmp 29) rfl w.heap.size _ [] rfl oe w1.heap.size 2 [⟨1, 0, 0, 0, 0, 0, 0, a⟩, ⟨1, 1, 0, 0, 0, 0, 0, b⟩] 2 rfl rfl _ rfl bl2 (by simp) hbl2.size ?_)
  intro vw w2 ow hg2 hat2
  have ol3 : own48 w2 w.heap.size (.slice (some ⟨w1.heap.size, 0, none⟩) 2 2) [⟨1, 0, 0, 0, 0, 0, 0, a⟩, ⟨1, 1, 0, 0, 0, 0, 0, b⟩] := own48_kept ol2 hg2 (.inr (by simp [Value.ownBlock]))
  have hB2 := hbl2.grown hg2 hbl2.size (fun k e => by simp [Value.ownBlock] at e; have := hb1.size; omega)
  have hne : (Value.slice (some ⟨w1.heap.size, 0, none⟩) 2 2).ownBlock ≠ vw.ownBlock := by
    rcases hat2 with h | h
    · rw [h]; simp [Value.ownBlock]
    · rw [h]; simp [Value.ownBlock]; omega
  generalize hvl : (Value.slice (some ⟨w1.heap.size, 0, none⟩) 2 2) = vl at *
  clear ol bl hbl hsl oe ol2 bl2 hbl2 hg2 hat2 hvl hb1
  go_wp2_with (fail)
  go_loopw [7, 8, 9, 10, 11] (fun v7 v8 v9 v10 i wr => ∃ (k : Nat) (ls ws : List S48) (x : Int) (kn : Bool), k ≤ os.length ∧ i = .int .i64 k ∧ v9 = .int .u32 x ∧ v10 = .bool kn ∧ Aside0 (own48 wr w.heap.size v7 ls) ∧ Aside0 (own48 wr w.heap.size v8 ws) ∧ Aside0 (v7.ownBlock ≠ v8.ownBlock) ∧ Aside0 (ls = ⟨1, 0, 0, 0, 0, 0, 0, a⟩ :: ⟨1, 1, 0, 0, 0, 0, 0, b⟩ :: (os.take k).map binK) ∧ Aside0 (ws ++ wantR b kn x (os.drop k) = wK a b os) ∧ Aside0 (ws.length = k + 2) ∧ Aside0 (W32 x) ∧ Aside0 (Below w.heap.size w wr)) (fun _ _ _ _ i _ => os.length - (intOf i).toNat)
  case atStart => exact ⟨0, _, _, a, true, Nat.zero_le _, rfl, rfl, rfl, ⟨ol3⟩, ⟨ow⟩, ⟨hne⟩, ⟨rfl⟩, ⟨rfl⟩, ⟨rfl⟩, ⟨ha⟩, ⟨hB2⟩⟩
  case round =>
    clear ol3 ow hne hB2
    obtain ⟨k, ls, ws, x, kn, hk, rfl, rfl, rfl, Hl, Hw, Hne, Hls, Hws, Hwl, Hx, HB⟩ := hrel
    obtain ⟨wo, rfl⟩ : ∃ wo : World, wo = wr := ⟨_, rfl⟩
    by_cases hlt : k < os.length
    · obtain ⟨ad, rfl, x0⟩ := Kd.at_int (Kd.C_below hr HB.out) (k : Int) (by omega) (by omega)
      simp only [Int.toNat_natCast] at x0
      have hor := ho (rd os (k : Int)) (rd_memI hlt)
      have Hdr := Aside0.mk (show os.drop k = rd os (k : Int) :: os.drop (k + 1) from drop_rd hlt)
      have Htk := Aside0.mk (show os.take (k + 1) = os.take k ++ [rd os (k : Int)] from take_rdI hlt)
      generalize rd os (k : Int) = o at *
      obtain ⟨ho0, ho1⟩ := hor
      have hkk : (4 + o % 12) ≤ 15 := by omega
      have hll : ls.length = k + 2 := by rw [Hls.out]; simp; omega
      have Hl1 := Aside0.mk (own48_alloc (own48_alloc Hl.out (.cells #[.int .i64 3, .int .i64 0, .int .i64 0, .int .i64 1, .int .i64 (4 + o % 12), .int .i64 0, .int .i64 0, .int .u32 0] 48)) (.cells #[.int .i64 3, .int .i64 0, .int .i64 0, .int .i64 1, .int .i64 (4 + o % 12), .int .i64 0, .int .i64 0, .int .u32 0] 48))
      have bt := blk_alloc (blk_new wo (.cells #[.int .i64 3, .int .i64 0, .int .i64 0, .int .i64 1, .int .i64 (4 + o % 12), .int .i64 0, .int .i64 0, .int .u32 0] 48)) (.cells #[.int .i64 3, .int .i64 0, .int .i64 0, .int .i64 1, .int .i64 (4 + o % 12), .int .i64 0, .int .i64 0, .int .u32 0] 48)
      have bt2 := blk_new (wo.alloc (.cells #[.int .i64 3, .int .i64 0, .int .i64 0, .int .i64 1, .int .i64 (4 + o % 12), .int .i64 0, .int .i64 0, .int .u32 0] 48)) (.cells #[.int .i64 3, .int .i64 0, .int .i64 0, .int .i64 1, .int .i64 (4 + o % 12), .int .i64 0, .int .i64 0, .int .u32 0] 48)
      rw [show (wo.alloc (.cells #[.int .i64 3, .int .i64 0, .int .i64 0, .int .i64 1, .int .i64 (4 + o % 12), .int .i64 0, .int .i64 0, .int .u32 0] 48)).heap.size = wo.heap.size + 1 by simp] at bt2
      have Hw1 := Aside0.mk (own48_alloc (own48_alloc Hw.out (.cells #[.int .i64 3, .int .i64 0, .int .i64 0, .int .i64 1, .int .i64 (4 + o % 12), .int .i64 0, .int .i64 0, .int .u32 0] 48)) (.cells #[.int .i64 3, .int .i64 0, .int .i64 0, .int .i64 1, .int .i64 (4 + o % 12), .int .i64 0, .int .i64 0, .int .u32 0] 48))
      have HB1 := Aside0.mk (below_alloc (below_alloc HB.out (.cells #[.int .i64 3, .int .i64 0, .int .i64 0, .int .i64 1, .int .i64 (4 + o % 12), .int .i64 0, .int .i64 0, .int .u32 0] 48)) (.cells #[.int .i64 3, .int .i64 0, .int .i64 0, .int .i64 1, .int .i64 (4 + o % 12), .int .i64 0, .int .i64 0, .int .u32 0] 48))
      have hvl7 := fun q e => (own48_lt Hl.out q e)
      have hvl8 := fun q e => (own48_lt Hw.out q e)
      go_wp2_with ((with_reducible refine gate_builtin (b := .append) (xs := #[.tmp 47, .tmp 49]) rfl ?_); refine app48 rfl (.tmp 47) (.tmp 49) rfl w.heap.size _ ls rfl Hl1.out (wo.heap.size + 1) 1 [binK o] 1 rfl rfl _ rfl bt2 (by simp; omega) HB1.out.size ?_)
      intro v7 w3 Hl3 hg3 hat3
      have bt3 := blk_grown bt hg3 (fun e => by have := (hvl7 _ e.symm).2; omega)
      have Hw3 := Aside0.mk (own48_kept Hw1.out hg3 (.inr (fun e => Hne.out e.symm)))
      have HB3 := Aside0.mk (HB1.out.grown hg3 HB1.out.size (fun q e => (hvl7 q e).1))
      have hs3 : wo.heap.size + 1 + 1 ≤ w3.heap.size := by have := hg3.size; simpa using this
      have Hne3 := Aside0.mk (show v7.ownBlock ≠ u8.ownBlock by
        rcases hat3 with h | h
        · rw [h]; exact Hne.out
        · rw [h]; intro e; have := (hvl8 _ e.symm).2; omega)
      have hvl7' : ∀ q, v7.ownBlock = some q → w.heap.size ≤ q ∧ q < w3.heap.size := fun q e => own48_lt Hl3 q e
      have hvl8' : ∀ q, u8.ownBlock = some q → w.heap.size ≤ q ∧ q < wo.heap.size := hvl8
      have Hl3' := Aside0.mk Hl3
      clear Hl1 bt bt2 Hw1 HB1 hvl7 hvl8 hg3 hat3 Hl3
      go_wp2_with (fail)
      refine (apply_calls _ _ _ _ Hx.out hb).mono ?_
      rintro e w4 ⟨rfl, rfl⟩
      obtain ⟨v, hv⟩ : ∃ v, v = (app (4 + o % 12) x b).1 := ⟨_, rfl⟩
      obtain ⟨er, her⟩ : ∃ er, er = (app (4 + o % 12) x b).2 := ⟨_, rfl⟩
      have hvw : W32 v := by rw [hv]; exact app_word _ Hx.out hb
      rw [← hv, ← her]
      have Hv := Aside0.mk hv
      have Her := Aside0.mk her
      have Hvw := Aside0.mk hvw
      clear hv her hvw
      have bt4 : w4.cell? ⟨wo.heap.size, 0, none⟩ = some (.int .i64 3) := (blk_cell bt3 0).trans rfl
      have bt5 : w4.cell? ⟨wo.heap.size, 1, none⟩ = some (.int .i64 0) := (blk_cell bt3 1).trans rfl
      have bt6 : w4.cell? ⟨wo.heap.size, 2, none⟩ = some (.int .i64 0) := (blk_cell bt3 2).trans rfl
      have bt7 : w4.cell? ⟨wo.heap.size, 3, none⟩ = some (.int .i64 1) := (blk_cell bt3 3).trans rfl
      have bt8 : w4.cell? ⟨wo.heap.size, 4, none⟩ = some (.int .i64 (4 + o % 12)) := (blk_cell bt3 4).trans rfl
      have bt9 : w4.cell? ⟨wo.heap.size, 5, none⟩ = some (.int .i64 0) := (blk_cell bt3 5).trans rfl
      have bt10 : w4.cell? ⟨wo.heap.size, 6, none⟩ = some (.int .i64 0) := (blk_cell bt3 6).trans rfl
      have bt11 : w4.cell? ⟨wo.heap.size, 7, none⟩ = some (.int .u32 0) := (blk_cell bt3 7).trans rfl
      have Hwb := Aside0.mk (own48_alloc Hw3.out (.cells #[.int .i64 3, .int .i64 0, .int .i64 0, .int .i64 1, .int .i64 (4 + o % 12), .int .i64 0, .int .i64 0, .int .u32 0] 48))
      have btb := blk_new w4 (.cells #[.int .i64 3, .int .i64 0, .int .i64 0, .int .i64 1, .int .i64 (4 + o % 12), .int .i64 0, .int .i64 0, .int .u32 0] 48)
      have HBb := Aside0.mk (below_alloc HB3.out (.cells #[.int .i64 3, .int .i64 0, .int .i64 0, .int .i64 1, .int .i64 (4 + o % 12), .int .i64 0, .int .i64 0, .int .u32 0] 48))
      have Hlb := Aside0.mk (own48_alloc Hl3'.out (.cells #[.int .i64 3, .int .i64 0, .int .i64 0, .int .i64 1, .int .i64 (4 + o % 12), .int .i64 0, .int .i64 0, .int .u32 0] 48))
      have Hwc := Aside0.mk (own48_alloc Hw3.out (.cells #[.int .i64 1, .int .i64 0, .int .i64 0, .int .i64 0, .int .i64 0, .int .i64 0, .int .i64 0, .int .u32 v] 48))
      have btc := blk_new w4 (.cells #[.int .i64 1, .int .i64 0, .int .i64 0, .int .i64 0, .int .i64 0, .int .i64 0, .int .i64 0, .int .u32 v] 48)
      have HBc := Aside0.mk (below_alloc HB3.out (.cells #[.int .i64 1, .int .i64 0, .int .i64 0, .int .i64 0, .int .i64 0, .int .i64 0, .int .i64 0, .int .u32 v] 48))
      have Hlc := Aside0.mk (own48_alloc Hl3'.out (.cells #[.int .i64 1, .int .i64 0, .int .i64 0, .int .i64 0, .int .i64 0, .int .i64 0, .int .i64 0, .int .u32 v] 48))
      have hws2 : ws.length ≤ 22 := by have := Hwl.out; omega

      by_cases hkn : kn = true ∧ er = 0
      · obtain ⟨rfl, rfl⟩ := hkn
        go_wp2_with ((with_reducible refine gate_builtin (b := .append) (xs := #[.tmp 63, .tmp 66]) rfl ?_); refine app48 rfl (.tmp 63) (.tmp 66) rfl w.heap.size _ ws rfl Hwc.out w4.heap.size 1 [conK v] 1 rfl rfl _ rfl btc (by simp; omega) HBc.out.size ?_)
        intro v8 w5 Hw5 hg5 hat5
        have Hl5 := Aside0.mk (own48_kept Hlc.out hg5 (.inr Hne3.out))
        have HB5 := Aside0.mk (HBc.out.grown hg5 HBc.out.size (fun q e => (hvl8' q e).1))
        have Hne5 := Aside0.mk (show v7.ownBlock ≠ v8.ownBlock by
          rcases hat5 with h | h
          · rw [h]; exact Hne3.out
          · rw [h]; intro e; have := (hvl7' _ e).2; omega)
        have Hw5' := Aside0.mk Hw5
        clear hg5 hat5 Hw5 Hwb btb HBb Hlb Hwc btc HBc Hlc
        go_wp2_with (fail)
        go_roundw
        case rel =>
          refine ⟨k + 1, ls ++ [binK o], ws ++ [conK v], v, true, hlt, by go_num, rfl, rfl, Hl5, Hw5', Hne5, ⟨?_⟩, ⟨?_⟩, ⟨?_⟩, Hvw, HB5⟩
          · rw [Htk.out, Hls.out, List.map_append]; rfl
          · have h := Hws.out
            rw [Hdr.out] at h
            simp only [wantR, ← Her.out, ← Hv.out] at h
            simpa using h
          · rw [List.length_append, Hwl.out]; rfl
        case measure => simp [intOf]; omega
      · have hw0 : wantR b kn x (o :: os.drop (k + 1)) = binK o :: wantR b false x (os.drop (k + 1)) := by
          simp only [wantR]
          rw [if_neg]
          rw [← Her.out]
          simpa using hkn
        have Hw0 := Aside0.mk hw0
        clear hw0
        have hkn2 : kn = false ∨ (kn = true ∧ (er == 0) = false) := by
          cases kn
          · exact .inl rfl
          · refine .inr ⟨rfl, ?_⟩
            rw [beq_eq_false_iff_ne]
            intro e
            exact hkn ⟨rfl, e⟩
        clear hkn
        rcases hkn2 with rfl | ⟨rfl, her0⟩
        all_goals
          go_wp2_with ((with_reducible refine gate_builtin (b := .append) (xs := #[.tmp 69, .tmp 71]) rfl ?_); refine app48 rfl (.tmp 69) (.tmp 71) rfl w.heap.size _ ws rfl Hwb.out w4.heap.size 1 [binK o] 1 rfl rfl _ rfl btb (by simp; omega) HBb.out.size ?_)
          intro v8 w5 Hw5 hg5 hat5
          have Hl5 := Aside0.mk (own48_kept Hlb.out hg5 (.inr Hne3.out))
          have HB5 := Aside0.mk (HBb.out.grown hg5 HBb.out.size (fun q e => (hvl8' q e).1))
          have Hne5 := Aside0.mk (show v7.ownBlock ≠ v8.ownBlock by
            rcases hat5 with h | h
            · rw [h]; exact Hne3.out
            · rw [h]; intro e; have := (hvl7' _ e).2; omega)
          have Hw5' := Aside0.mk Hw5
          clear hg5 hat5 Hw5 Hwb btb HBb Hlb Hwc btc HBc Hlc
          go_wp2_with (fail)
          go_roundw
          case rel =>
            refine ⟨k + 1, ls ++ [binK o], ws ++ [binK o], x, false, hlt, by go_num, rfl, rfl, Hl5, Hw5', Hne5, ⟨?_⟩, ⟨?_⟩, ⟨?_⟩, Hx, HB5⟩
            · rw [Htk.out, Hls.out, List.map_append]; rfl
            · have h := Hws.out
              rw [Hdr.out, Hw0.out] at h
              simpa using h
            · rw [List.length_append, Hwl.out]; rfl
          case measure => simp [intOf]; omega
    · have hk' : k = os.length := by omega
      subst hk'
      rw [List.take_length] at Hls
      rw [List.drop_length] at Hws
      have hws : ws = wK a b os := by have := Hws.out; simpa [wantR] using this
      have hls : ls = lK a b os := Hls.out
      subst hws
      subst hls
      clear Hws Hls Hwl
      obtain ⟨A7, c7, n7, hn7, rfl⟩ := own48_slice Hl.out
      obtain ⟨A8, c8, n8, hn8, rfl⟩ := own48_slice Hw.out
      have hlen : (lK a b os).length ≤ 100000 := by simp [lK]; omega
      have hR := Aside0.mk (lit45 wo w.heap.size HB.out.size ⟨lK a b os, 3, 0, 0, 0⟩ _ (own48_R Hl.out))
      have hW := Aside0.mk (Kd.R_alloc (own48_R Hw.out) (.cells #[.slice A7 n7 c7, .int .i64 3, .int .i64 0, .int .i64 0, .int .i64 0] 45))
      have HB1 := Aside0.mk (below_alloc HB.out (.cells #[.slice A7 n7 c7, .int .i64 3, .int .i64 0, .int .i64 0, .int .i64 0] 45))
      have Hn7 := Aside0.mk hn7
      have Hn8 := Aside0.mk hn8
      clear hn7 hn8 HB Hl Hw Hne
      obtain ⟨Aa, ca, ea, hla, hCa⟩ := Kd.R_reads hR.out
      injection ea with ea1 ea2 ea3
      subst ea1
      subst ea3
      clear ea2
      go_wp2_with (fail)
      refine (of_calls 2 _ _ [⟨lK a b os, 3, 0, 0, 0⟩] _ (by exact hCa) hla (by decide) (by decide) (by simp) (by intro q hq; obtain rfl := List.mem_singleton.1 hq; exact hlen) (okK ha hb os)).mono ?_
      rintro e w5 ⟨v1, v2, rfl, r1, r2, hb5⟩
      rw [known_law] at r1
      obtain ⟨Af, nf, cf, rfl⟩ := R_slicen r1
      obtain ⟨Ac, nc, cc, rfl⟩ := R_slicen r2
      obtain ⟨Af', cf', ef, hlf, hCf⟩ := Kd.R_reads r1
      injection ef with ef1 ef2 ef3
      subst ef1
      subst ef2
      subst ef3
      have hW5 := Aside0.mk (Kd.R_below hW.out hb5)
      have HB5 := Aside0.mk (below_then HB1.out HB1.out.size hb5)
      clear hW HB1 hR r1 r2 hb5 hCa hla
      go_wp2_with (fail)
      have hW6 := Kd.R_alloc (Kd.R_alloc hW5.out (.cells #[.int .i64 2, .slice Af 1 cf] 29)) (.cells #[.slice Ac nc cc] 32)
      have HB6 := below_alloc (below_alloc HB5.out (.cells #[.int .i64 2, .slice Af 1 cf] 29)) (.cells #[.slice Ac nc cc] 32)
      have hW7 := lit45 _ w.heap.size HB6.size ⟨wK a b os, 3, 0, 0, 0⟩ _ hW6
      rw [show ((w5.alloc (.cells #[.int .i64 2, .slice Af 1 cf] 29)).alloc (.cells #[.slice Ac nc cc] 32)).heap.size = w5.heap.size + 1 + 1 by simp] at hW7
      obtain ⟨Aw, cw, ew, hlw, hCw⟩ := Kd.R_reads hW7
      injection ew with ew1 ew2 ew3
      subst ew1
      subst ew3
      clear ew2
      refine (same_calls 2 Af _ cf 1 [⟨wK a b os, 3, 0, 0, 0⟩] _ (by exact Kd.C_alloc (Kd.C_alloc (Kd.C_alloc hCf _) _) _) (by exact hCw)).mono ?_
      rintro e w6 ⟨rfl, hb6⟩
      go_wp2_with (fail)
      go_ret
      exact ⟨rfl, below_then (below_alloc HB6 _) (below_alloc HB6 _).size hb6⟩
end Go.Proofs.Ytggchfdjpfodfaa.H
