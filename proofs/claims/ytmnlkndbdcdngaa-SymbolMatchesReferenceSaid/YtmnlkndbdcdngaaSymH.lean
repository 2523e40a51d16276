/-
  Walks of the layer 'symbol': Chain.
-/
import Derived.Test.YtmnlkndbdcdngaaSymG
namespace Go.Proofs.Ytmnlkndbdcdngaa
open Go.RowKit Sb Sk Go.Sort
set_option linter.unusedVariables false


/-- a book in memory -/
structure Bk where
  of : Int
  ao : Option Addr
  n : Nat
  cap : Nat
  ms : List Mk
  deriving Inhabited
abbrev cB (u : Bk) : List Value := [.int .i64 u.of, .slice u.ao u.n u.cap]
theorem cB_len (u : Bk) : (cB u).length = 2 := rfl
/-- each book's marks read as they are said to -/
def BkOk (w : World) (u : Bk) : Prop := Sl w 3 cM u.ao u.n u.cap u.ms
def plainB (u : Bk) : Int × List Mk := (u.of, u.ms)

theorem chain_bad {bs : List Bk} {s : Int} (h : (decide (0 < bs.length) && decide (bs.length ≤ 20) && okS s && (bs.all fun b => okB b.of b.ms)) = false) : chain (bs.map plainB) s = (0, 1) := by
  unfold chain
  cases bs with
  | nil => rfl
  | cons b r =>
    simp only [List.map_cons]
    rw [if_neg]
    intro h2
    simp only [Bool.and_eq_true, decide_eq_true_eq, List.all_eq_true, Bool.and_eq_false_iff, decide_eq_false_iff_not] at h h2
    obtain ⟨⟨h3, h4⟩, h5⟩ := h2
    rcases h with ((h | h) | h) | h
    · simp at h
    · simp at h h3; omega
    · rw [h4] at h; cases h
    · rw [List.all_eq_false] at h
      obtain ⟨x, hx, hn⟩ := h
      have := h5 (plainB x) (by
        rcases List.mem_cons.1 hx with rfl | hx
        · simp
        · exact List.mem_cons_of_mem _ (List.mem_map_of_mem hx))
      exact hn this
theorem chain_ok {b : Bk} {r : List Bk} {s : Int} (h1 : (b :: r).length ≤ 20) (h2 : okS s = true) (h3 : ∀ u ∈ b :: r, okB u.of u.ms = true) :
    chain ((b :: r).map plainB) s = match lookM b.ms s with | some m => chainGo (r.map plainB) m | none => (0, 11) := by
  unfold chain
  simp only [List.map_cons]
  rw [if_pos]
  · rfl
  · simp only [Bool.and_eq_true, decide_eq_true_eq, List.all_eq_true]
    refine ⟨⟨by simp at h1 ⊢; omega, h2⟩, ?_⟩
    intro x hx
    rcases List.mem_cons.1 hx with rfl | hx
    · exact h3 b (by simp)
    · obtain ⟨u, hu, rfl⟩ := List.mem_map.1 hx
      exact h3 u (by simp [hu])

set_option maxRecDepth 100000 in
set_option maxHeartbeats 4000000 in
theorem Chain_any (ao : Option Addr) (n cap : Nat) (bs : List Bk) (s : Int) (w : World) (hs : Sl w 2 cB ao n cap bs) (hb : ∀ u ∈ bs, BkOk w u) :
    Calls Try.prog 23 #[.slice ao n cap, .int .i64 s] w (Ret w (.tuple #[.int .i64 (chain (bs.map plainB) s).1, .int .i64 (chain (bs.map plainB) s).2])) := by
  obtain rfl := hs.len
  have hcap := hs.max
  have hle := hs.le
  unfold maxLen at hcap
  have HS := Lib.hid hs
  have HBK := Lib.hid hb
  have HSW := Lib.hid hs
  clear hs hb
  have HB_w : Below w.heap.size w w := Below.refl _ _
  have HBAD := Lib.hid (@chain_bad bs s)
  have HGOOD := Lib.hid (show ∀ (h0 : 0 < bs.length), bs.length ≤ 20 → okS s = true → (∀ u ∈ bs, okB u.of u.ms = true) → chain (bs.map plainB) s = match lookM bs[0].ms s with | some m => chainGo ((bs.drop 1).map plainB) m | none => (0, 11) from fun h0 h1 h2 h3 => by
    cases bs with
    | nil => simp at h0
    | cons b r => exact chain_ok h1 h2 h3)
  generalize chain (bs.map plainB) s = p at *
  by_cases h1 : 0 < bs.length ∧ bs.length ≤ 20
  case neg =>
    have HP := Lib.hid (HBAD.out (by
      simp only [Bool.and_eq_false_iff, decide_eq_false_iff_not]
      left; left
      rcases Classical.em (0 < bs.length) with h | h
      · right; omega
      · left; exact h))
    have h2 : bs.length ≤ 0 ∨ (0 < bs.length ∧ 20 < bs.length) := by omega
    clear h1
    rcases h2 with h | ⟨h, h'⟩
    · have h0 : ((bs.length : Int) == 0) = true := by rw [show bs.length = 0 by omega]; rfl
      go_enter Try.func23, Try.ntmps23
      go_wp2_with fail
      go_ret2
      exact ⟨ret_pair HP.out, HB_w⟩
    · have h0 : ((bs.length : Int) == 0) = false := beq_eq_false_iff_ne.2 (by omega)
      go_enter Try.func23, Try.ntmps23
      go_wp2_with fail
      all_goals try (exfalso; omega)
      go_ret2
      exact ⟨ret_pair HP.out, HB_w⟩
  obtain ⟨h1a, h1b⟩ := h1
  have h0 : ((bs.length : Int) == 0) = false := beq_eq_false_iff_ne.2 (by omega)
  go_enter Try.func23, Try.ntmps23
  go_wp2_with fail
  all_goals try (exfalso; omega)
  refine (number_any s _).mono ?_
  rintro e wa ⟨rfl, hb_wa⟩
  have HB_wa : Below w.heap.size w wa := by first | exact after0 HB_w hb_wa | exact after1 HB_w hb_wa | exact after2 HB_w hb_wa | exact after3 HB_w hb_wa | exact after4 HB_w hb_wa | exact after5 HB_w hb_wa
  replace HS := Lib.hid (show Sl wa _ _ _ _ _ _ by first | exact HS.out.below hb_wa | exact (HS.out.below (grew1 (Below.refl _ _))).below hb_wa | exact (HS.out.below (grew2 (Below.refl _ _))).below hb_wa | exact (HS.out.below (grew3 (Below.refl _ _))).below hb_wa)
  cases h2 : okS s
  · have HP := Lib.hid (HBAD.out (by simp [h2]))
    go_wp2_with fail
    go_ret2
    exact ⟨ret_pair HP.out, HB_wa⟩
  have HPB := Lib.hid (show (∃ u ∈ bs, okB u.of u.ms = false) → p = (0, 1) from fun ⟨u, hu, hn⟩ => HBAD.out (by
    simp only [Bool.and_eq_false_iff]; right
    rw [List.all_eq_false]; exact ⟨u, hu, by simp [hn]⟩))
  have HPG := Lib.hid (HGOOD.out h1a h1b h2)
  clear h2 HBAD HGOOD
  go_wp2_with fail
  have HS0 := Lib.hid HS.out
  go_loopw [27] (fun i wr => ∃ k : Nat, k ≤ bs.length ∧ i = .int .i64 k ∧ Below w.heap.size w wr ∧ Hid (Below wa.heap.size wa wr) ∧ Hid (∀ j (h : j < bs.length), j < k → okB bs[j].of bs[j].ms = true)) (fun i _ => bs.length - (intOf i).toNat)
  case atStart => exact ⟨0, by omega, rfl, HB_wa, Below.refl _ _, fun j _ h => absurd h (Nat.not_lt_zero _)⟩
  case round =>
    obtain ⟨k, hk, rfl, HB_wr, HBA, HOKS⟩ := hrel
    by_cases hkl : k < bs.length
    · have HNX := Lib.hid (show okB bs[k].of bs[k].ms = true → ∀ j (h : j < bs.length), j < k + 1 → okB bs[j].of bs[j].ms = true from fun h0 j h hj => by
        rcases Nat.lt_succ_iff_lt_or_eq.1 hj with h1 | rfl
        · exact HOKS.out j h h1
        · exact h0)
      have HNO := Lib.hid (show okB bs[k].of bs[k].ms = false → p = (0, 1) from fun h => HPB.out ⟨_, List.getElem_mem hkl, h⟩)
      have HK := Lib.hid (show BkOk wr bs[k] from (HBK.out _ (List.getElem_mem hkl)).below HB_wr)
      obtain ⟨bb, off, rfl, hbb, hrow⟩ := HS.out.get hkl
      obtain ⟨e0, e1⟩ := ((hrow k hkl).below HBA.out hbb).c2
      clear hrow
      generalize bs[k] = u at *
      obtain ⟨uo, ua, un, uc, ums⟩ := u
      dsimp only at e0 e1 HNX HNO
      have HKS : Hid (Sl wr 3 cM ua un uc ums) := HK.out
      obtain ⟨W1, hW1, hB_W1, hZ_W1, hb_W1⟩ := boxes1 wr [.int .i64 uo, .slice ua un uc] 24
      obtain ⟨Nx, hNx⟩ : ∃ N, wr.heap.size = N := ⟨_, rfl⟩
      rw [hNx] at hb_W1
      have H_x := Lib.hid hb_W1
      have HB_W1 : Below w.heap.size w W1 := after0 HB_wr hB_W1
      have HN_x : w.heap.size ≤ Nx := hNx ▸ HB_wr.size
      clear hb_W1 hZ_W1
      obtain ⟨q_x_0, q_x_1⟩ := H_x.out.c2
      go_wp2_with fail
      refine (bvalid_any uo ua un uc ums _ (HKS.out.below hB_W1)).mono ?_
      rintro e w2 ⟨rfl, hb_w2⟩
      have HB_w2 : Below w.heap.size w w2 := by first | exact after0 HB_W1 hb_w2 | exact after1 HB_W1 hb_w2 | exact after2 HB_W1 hb_w2 | exact after3 HB_W1 hb_w2 | exact after4 HB_W1 hb_w2 | exact after5 HB_W1 hb_w2
      try clear q_x_0 q_x_1
      have H_x := Lib.hid (Box.below (by first | exact H_x.out | exact H_x.out.alloc _ | exact (H_x.out.alloc _).alloc _ | exact ((H_x.out.alloc _).alloc _).alloc _) hb_w2)
      obtain ⟨q_x_0, q_x_1⟩ := H_x.out.c2
      have HBA2 := Lib.hid (after0 HBA.out (after0 hB_W1 hb_w2))
      clear hW1 hNx hB_W1 e0 e1
      cases hv : okB uo ums
      · have HP := Lib.hid (HNO.out hv)
        go_wp2_with fail
        go_ret2
        exact ⟨ret_pair HP.out, HB_w2⟩
      · have HN := Lib.hid (HNX.out hv)
        go_wp2_with fail
        go_roundw
        case rel => exact ⟨k + 1, by omega, by go_num, HB_w2, HBA2, HN⟩
        case measure => simp [intOf]; omega
    · have HP := Lib.hid (HPG.out (fun u hu => by obtain ⟨j, hj, rfl⟩ := List.getElem_of_mem hu; exact HOKS.out j hj (by omega)))
      have HV0 := Lib.hid (okB_iff.1 (HOKS.out 0 h1a (by omega))).2
      have HK0 : Hid (BkOk wr bs[0]) := (HBK.out _ (List.getElem_mem h1a)).below HB_wr
      have HSr := Lib.hid (HS.out.below HBA.out)
      obtain ⟨bb, off, rfl, hbb, hrow⟩ := HSr.out.get h1a
      obtain ⟨e0, e1⟩ := (hrow 0 h1a).c2
      rw [Nat.zero_mul, Nat.add_zero] at e0 e1
      clear hrow HPG HPB
      generalize bs[0] = u at *
      obtain ⟨uo, ua, un, uc, ums⟩ := u
      dsimp only at e0 e1 HP HV0
      have HKS : Hid (Sl wr 3 cM ua un uc ums) := HK0.out
      go_wp2_with fail
      refine (find_any uo ua un uc ums s _ HKS.out HV0.out).mono ?_
      rintro e w3 ⟨rfl, hb_w3⟩
      have HB_w3 : Below w.heap.size w w3 := by first | exact after0 HB_wr hb_w3 | exact after1 HB_wr hb_w3 | exact after2 HB_wr hb_w3 | exact after3 HB_wr hb_w3 | exact after4 HB_wr hb_w3 | exact after5 HB_wr hb_w3
      clear e0 e1
      cases hl : lookM ums s with
      | none =>
        have HP2 := Lib.hid (show p = (0, 11) by rw [HP.out, hl])
        clear hl
        dsimp only [Option.getD, Option.isSome, zeroM]
        go_wp2_with fail
        go_ret2
        exact ⟨ret_pair HP2.out, grew1 HB_w3⟩
      | some m =>
        have HP2 := Lib.hid (show p = chainGo ((bs.drop 1).map plainB) m by rw [HP.out, hl])
        clear hl HP
        obtain ⟨x0, x1, x2⟩ := m
        dsimp only [Option.getD, Option.isSome]
        obtain ⟨ao', hst, hsl⟩ := slice_tail (P := Try.prog) (t := 25) (by kernel_rfl) (fun W => by kernel_rfl) HSW.out 1 (by omega)
        have hst' : ∀ W, (Instr.sliceAt 25 (.slice (some ⟨bb, off, none⟩) bs.length cap) (some (.int .i64 1)) none none).run Try.prog W = .ok (.slice ao' (bs.length - 1) (cap - 1)) W := hst
        have HTL := Lib.hid hsl
        clear hst hsl
        obtain ⟨W1, hW1, hB_W1, hZ_W1, hb_W1⟩ := boxes1 w3 [.int .i64 x0, .int .i64 x1, .int .i64 x2] 29
        obtain ⟨Nx, hNx⟩ : ∃ N, w3.heap.size = N := ⟨_, rfl⟩
        rw [hNx] at hb_W1
        have H_x := Lib.hid hb_W1
        have HB_W1 : Below w.heap.size w W1 := after0 HB_w3 hB_W1
        have HN_x : w.heap.size ≤ Nx := hNx ▸ HB_w3.size
        clear hb_W1 hZ_W1
        go_wp2_with fail
        clear hst' hW1 hNx hB_W1
        go_loopw [48] (fun i wr => ∃ (k : Nat) (m : Mk), k ≤ bs.length - 1 ∧ i = .int .i64 k ∧ Below w.heap.size w wr ∧ Hid (Box wr Nx 29 [.int .i64 m.sy, .int .i64 m.kd, .int .i64 m.cl]) ∧ Hid (p = chainGo ((bs.drop (1 + k)).map plainB) m)) (fun i _ => bs.length - (intOf i).toNat)
        case atStart => exact ⟨0, ⟨x0, x1, x2⟩, by omega, rfl, HB_W1, H_x, HP2⟩
        case round =>
          clear HP2 H_x
          obtain ⟨k, m, hk, rfl, HB_wr, H_x, HP2⟩ := hrel
          obtain ⟨m0, m1, m2⟩ := m
          dsimp only at H_x
          by_cases hkl : k < bs.length - 1
          · have hkd : k < (bs.drop 1).length := by simp; omega
            have HST := Lib.hid (show bs.drop (1 + k) = (bs.drop 1)[k] :: bs.drop (1 + (k + 1)) by
              rw [← List.drop_drop, List.drop_eq_getElem_cons hkd, List.drop_drop])
            have hmem : (bs.drop 1)[k] ∈ bs := List.mem_of_mem_drop (List.getElem_mem hkd)
            have HK := Lib.hid (show BkOk wr (bs.drop 1)[k] from (HBK.out _ hmem).below HB_wr)
            obtain ⟨bb2, off2, rfl, hbb2, hrow⟩ := HTL.out.get hkd
            obtain ⟨e0, e1⟩ := ((hrow k hkd).below HB_wr hbb2).c2
            clear hrow hmem
            generalize (bs.drop 1)[k] = u at *
            obtain ⟨uo, ua, un, uc, ums⟩ := u
            dsimp only at e0 e1
            have HKS : Hid (Sl wr 3 cM ua un uc ums) := HK.out
            have hkl' : (k : Int) < ((bs.length - 1 : Nat) : Int) := by omega
            obtain ⟨W2, hW2, hB_W2, hZ_W2, hb_W2⟩ := boxes1 wr [.int .i64 uo, .slice ua un uc] 24
            obtain ⟨Nb, hNb⟩ : ∃ N, wr.heap.size = N := ⟨_, rfl⟩
            rw [hNb] at hb_W2
            have H_b := Lib.hid hb_W2
            have HB_W2 : Below w.heap.size w W2 := after0 HB_wr hB_W2
            have HN_b : w.heap.size ≤ Nb := hNb ▸ HB_wr.size
            clear hb_W2 hZ_W2
            replace H_x := Lib.hid (H_x.out.below hB_W2)
            obtain ⟨q_b_0, q_b_1⟩ := H_b.out.c2
            obtain ⟨q_x_0, q_x_1, q_x_2⟩ := H_x.out.c3
            go_wp2_with fail
            refine (translation_any uo ua un uc ums m0 m1 m2 _ (HKS.out.below hB_W2)).mono ?_
            rintro e w4 ⟨rfl, hb_w4⟩
            have HB_w4 : Below w.heap.size w w4 := by first | exact after0 HB_W2 hb_w4 | exact after1 HB_W2 hb_w4 | exact after2 HB_W2 hb_w4 | exact after3 HB_W2 hb_w4 | exact after4 HB_W2 hb_w4 | exact after5 HB_W2 hb_w4
            try clear q_x_0 q_x_1 q_x_2
            have H_x := Lib.hid (Box.below (by first | exact H_x.out | exact H_x.out.alloc _ | exact (H_x.out.alloc _).alloc _ | exact ((H_x.out.alloc _).alloc _).alloc _) hb_w4)
            obtain ⟨q_x_0, q_x_1, q_x_2⟩ := H_x.out.c3
            clear hW2 hNb hB_W2 e0 e1 q_b_0 q_b_1
            have HP3 := Lib.hid (show p = if found (trans ums ⟨m0, m1, m2⟩) = true then chainGo ((bs.drop (1 + (k + 1))).map plainB) (trans ums ⟨m0, m1, m2⟩) else (0, 4) by
              rw [HP2.out, HST.out]; rfl)
            generalize trans ums ⟨m0, m1, m2⟩ = t at *
            obtain ⟨t0, t1, t2⟩ := t
            dsimp only
            have f1 := H_x.out.frozen
            obtain ⟨W5, hW5, hB_W5, hx_W5, _⟩ := store3 w4 Nx (.int .i64 t0) (.int .i64 t1) (.int .i64 t2)
            have HB_W5 : Below w.heap.size w W5 := HB_w4.trans (hB_W5 _ HN_x)
            have H_x5 := Lib.hid (hx_W5 _ _ _ _ H_x.out)
            clear hB_W5 hx_W5
            cases hf : found ⟨t0, t1, t2⟩
            · have HP4 := Lib.hid (HP3.out.trans (if_neg (by rw [hf]; simp)))
              clear hf
              go_wp2_with fail
              go_ret2
              exact ⟨ret_pair HP4.out, HB_W5⟩
            · have HP4 := Lib.hid (HP3.out.trans (if_pos hf))
              clear hf
              go_wp2_with fail
              clear hW5
              go_roundw
              case rel => exact ⟨k + 1, ⟨t0, t1, t2⟩, by omega, by go_num, HB_W5, H_x5, HP4⟩
              case measure => simp [intOf]; omega
          · have HPE := Lib.hid (show p = (m0, 0) by
              rw [HP2.out, List.drop_eq_nil_of_le (by omega)]; rfl)
            have hkl' : ((bs.length - 1 : Nat) : Int) ≤ (k : Int) := by omega
            obtain ⟨q_x_0, q_x_1, q_x_2⟩ := H_x.out.c3
            go_wp2_with fail
            go_ret2
            exact ⟨ret_pair HPE.out, HB_wr⟩
end Go.Proofs.Ytmnlkndbdcdngaa
