/-
  Walks of the layer 'number': the range over the free names.
-/
import Derived.Shelf.Abstract
import Derived.Test.YtpdecgbfnhaojaaGreatNumD
import Derived.Test.YtpdecgbfnhaojaaGreatRange
namespace Go.Proofs.YtpdecgbfnhaojaaGreat
open Go.RowKit Nb Sk Go.Sort Go.Shelf

/-- the number that comes behind k steps from 'last' -/
def nth (last : Int) : Nat → Int
  | 0 => last
  | k + 1 => (last + (k : Int)) % 99 + 1
theorem nth_range {last : Int} (h : 0 ≤ last ∧ last ≤ 99) (k : Nat) : 0 ≤ nth last k ∧ nth last k ≤ 99 := by cases k <;> simp only [nth] <;> omega
theorem nth_step (last : Int) (k : Nat) : nth last (k + 1) = nth last k % 99 + 1 := by
  cases k with
  | zero => simp [nth]
  | succ k => simp only [nth]; omega

/-- the free names behind k steps -/
def fre (st kd last : Int) (us : List Bool) : Nat → List Nm
  | 0 => []
  | k + 1 => fre st kd last us k ++ (if us[(nth last (k + 1)).toNat]? = some false then [⟨st, kd, nth last (k + 1)⟩] else [])
theorem fre_len (st kd last : Int) (us : List Bool) (k : Nat) : (fre st kd last us k).length ≤ k := by
  induction k with
  | zero => simp [fre]
  | succ k ih => simp only [fre, List.length_append]; split <;> simp <;> omega
theorem fre_prefix (st kd last : Int) (us : List Bool) (j k : Nat) : fre st kd last us j <+: fre st kd last us (j + k) := by
  induction k with
  | zero => exact List.prefix_refl _
  | succ k ih => exact ih.trans (by rw [← Nat.add_assoc]; exact List.prefix_append _ _)

def eNs (n : Nm) : Array Value := #[.agg #[.int .i64 n.st, .int .i64 n.kd, .int .i64 n.nu]]

set_option maxRecDepth 100000 in
set_option maxHeartbeats 4000000 in
theorem free1_wide (l N Bp T Tp : Nat) (st kd last : Int) (us : List Bool) (hla : 0 ≤ last ∧ last ≤ 99) (hus : us.length = 100) (J Jx : List Nm → World → Prop) (W : World) (hJ : AbidesFrom W.heap.size J)
    (hY : ∀ pre x W1, J pre W1 → pre.length < 99 → YieldAt Fence.wide (9 - 1) Tryz.prog l (eNs x) W1 fun e W' =>
      (e = .returned (.bool true) ∧ J (pre ++ [x]) W' ∧ Same [N, Bp] W1 W') ∨ (e = .returned (.bool false) ∧ Jx (pre ++ [x]) W'))
    (hN : Box W N T (poolC st kd last us)) (hB : Box W Bp Tp [.pointer (some ⟨N, 0, none⟩)]) (h0 : J [] W) :
    CallsIn Fence.wide 9 Tryz.prog 86 #[.func (.yield l) #[] #[], .pointer (some ⟨Bp, 0, none⟩)] W fun e W' => (∃ v, e = .returned v) ∧
      ((∃ ys, ys = fre st kd last us 99 ∧ J ys W') ∨ (∃ pre, pre <+: fre st kd last us 99 ∧ Jx pre W')) := by
  have HJ := Lib.hid hJ
  have HY := Lib.hid hY
  have HN := Lib.hid hN
  have HBP := Lib.hid hB
  have HUS := Lib.hid hus
  have HLA := Lib.hid hla
  clear hJ hY hN hB hus hla
  have x1 := HBP.out.c1
  have x2 := HN.out.cell (j := 2) rfl
  refine callsIn_of_wp Tryz.func86 rfl trivial (wpIn_wide.2 ?_) rfl
  simp only [Tryz.ntmps86, List.size_toArray, List.length_cons, List.length_nil, Nat.reduceAdd, Nat.reduceSub, Array.replicate_succ, Array.replicate_zero, List.push_toArray, List.append_toArray, List.nil_append, List.cons_append]
  go_wp2_with fail
  clear x1 x2
  go_loopw [3, 8] (fun x i wr => ∃ k : Nat, k ≤ 99 ∧ i = .int .i64 k ∧ x = .int .i64 (nth last k) ∧ Hid (J (fre st kd last us k) wr) ∧ Hid (Box wr N T (poolC st kd last us)) ∧ Hid (Box wr Bp Tp [.pointer (some ⟨N, 0, none⟩)])) (fun x i _ => 99 - (intOf i).toNat)
  case atStart => exact ⟨0, by omega, rfl, rfl, h0, HN, HBP⟩
  case round =>
    clear h0 HN HBP
    obtain ⟨k, hk, rfl, rfl, HJ0, HN, HBP⟩ := hrel
    by_cases hkl : k < 99
    · have HR := Lib.hid (nth_range HLA.out k)
      have HS := Lib.hid (nth_step last k)
      have HR2 := Lib.hid (nth_range HLA.out (k + 1))
      obtain ⟨x, hx⟩ : ∃ x, nth last k = x := ⟨_, rfl⟩
      obtain ⟨m, hm⟩ : ∃ m : Nat, x % 99 + 1 = (m : Int) := ⟨(x % 99 + 1).toNat, by have := HR2.out; rw [HS.out, hx] at this; omega⟩
      have hm1 : m ≤ 99 := by have := HR2.out; rw [HS.out, hx, hm] at this; omega
      have hx1 : 0 ≤ x := by have := HR.out; rw [hx] at this; omega
      have hx2 : x ≤ 99 := by have := HR.out; rw [hx] at this; omega
      have HM := Lib.hid (show nth last (k + 1) = (m : Int) by rw [HS.out, hx, hm])
      have HF := Lib.hid (show fre st kd last us (k + 1) = fre st kd last us k ++ (if us[m]? = some false then [⟨st, kd, (m : Int)⟩] else []) by
        rw [fre, HM.out]; rfl)
      obtain ⟨q, hq⟩ : ∃ q, us[m]? = some q := ⟨_, List.getElem?_eq_getElem (by rw [HUS.out]; omega)⟩
      have x1 := HBP.out.c1
      have x2 := HN.out.cell (poolC_us (st := st) (kd := kd) (last := last) hq)
      rw [hx]
      clear HR HS HR2
      go_wp2_with fail
      try rw [hm]
      cases q
      · have HF2 := Lib.hid (show fre st kd last us (k + 1) = fre st kd last us k ++ [⟨st, kd, (m : Int)⟩] by rw [HF.out, if_pos hq])
        have HJD : Hid (J (fre st kd last us k) wr.drew) := HJ.out _ _ _ none HJ0.out (grown_drew _) (fun r e => by cases e)
        obtain ⟨fn, tmps, assign, body, hy, hR⟩ := HY.out _ ⟨st, kd, (m : Int)⟩ wr.drew HJD.out (Nat.lt_of_le_of_lt (fre_len st kd last us k) hkl)
        dsimp only [eNs] at hy
        have y1 := cell_regrown x1
        have y2 := cell_regrown x2
        have y3 := cell_regrown (HN.out.cell (j := 0) rfl)
        have y4 := cell_regrown (HN.out.cell (j := 1) rfl)
        have HRB := Lib.hid hR
        clear x1 x2 hq HF hR
        refine (wpIn_wide (n := 9)).1 ?_
        refine wpIn_region_mix (C := fun w' => ∃ p : Regrown, w' = grow (redrawn wr p.d) p.os) [(0, 0), (1, 0), (2, 0), (3, 0), (4, 0), (5, 0), (6, 0), (7, 0), (8, 0), (9, 0), (10, 0), (11, 0), (12, 0), (13, 0), (14, 0), (15, 0), (16, 0), (17, 0), (18, 0)] 19 wide_fn (by kernel_rfl) (by kernel_rfl) (by kernel_rfl) (grew_drew _) ?_
        repeat (refine imix_q rfl rfl ?_; first | go_big_quiet_skip | (go_big_quiet_want; go_big_quiet_op; go_big_quiet_on); refine wpQuiet_nil ?_)
        refine imix_nil ?_
        simp only [List.drop_succ_cons, List.drop_zero]
        clear y1 y2 y3 y4
        gi_wp2
        refine HRB.out.mono ?_
        rintro e W3 (⟨rfl, hJ3, hs3⟩ | ⟨rfl, hJx3⟩)
        · have HN3 := Lib.hid (hs3.box (by simp) HN.out.drew)
          have HB3 := Lib.hid (hs3.box (by simp) HBP.out.drew)
          have HJ3 := Lib.hid hJ3
          clear hy hJ3 hs3
          gi_wp2
          refine NoPanic.normal ?_
          go_wp2
          go_roundw
          case rel => exact ⟨k + 1, by omega, by go_num, by rw [HM.out], (by show J _ _; rw [HF2.out]; exact HJ3.out), HN3, HB3⟩
          case measure => simp [intOf]; omega
        · have HJ3 := Lib.hid hJx3
          clear hy hJx3
          gi_wp2
          refine NoPanic.normal ?_
          go_wp2
          refine bodyPost_ret (results_none rfl _ _ _) rfl ?_
          refine ⟨⟨_, rfl⟩, .inr ⟨_, ?_, HJ3.out⟩⟩
          have := fre_prefix st kd last us (k + 1) (99 - (k + 1))
          rw [HF2.out, show k + 1 + (99 - (k + 1)) = 99 by omega] at this
          exact this
      · have HF2 := Lib.hid (show fre st kd last us (k + 1) = fre st kd last us k by rw [HF.out, if_neg (by rw [hq]; simp), List.append_nil])
        have HJD : Hid (J (fre st kd last us (k + 1)) wr.drew) := by
          show J _ _
          rw [HF2.out]
          exact HJ.out _ _ _ none HJ0.out (grown_drew _) (fun r e => by cases e)
        have y1 := cell_regrown x1
        have y2 := cell_regrown x2
        clear x1 x2 hq HF
        refine wp_region_mix (C := fun w' => ∃ p : Regrown, w' = grow (redrawn wr p.d) p.os) [(0, 0), (1, 0), (2, 0), (3, 0), (4, 0), (5, 0), (6, 0), (7, 0), (8, 0), (9, 0), (10, 0), (11, 0), (12, 0), (13, 0), (14, 0), (15, 0), (16, 0), (17, 0), (18, 0)] 19 (by kernel_rfl) (by kernel_rfl) (grew_drew _) ?_
        repeat (refine mix_q rfl rfl ?_; first | go_big_quiet_skip | (go_big_quiet_want; go_big_quiet_op; go_big_quiet_on); refine wpQuiet_nil ?_)
        try refine wpQuiet_nil ?_
        refine wpMix_nil ?_
        simp only [List.drop_succ_cons, List.drop_zero]
        clear y1 y2
        go_wp2
        refine NoPanic.normal ?_
        go_wp2
        go_roundw
        case rel => exact ⟨k + 1, by omega, by go_num, by rw [HM.out], HJD, Lib.hid HN.out.drew, Lib.hid HBP.out.drew⟩
        case measure => simp [intOf]; omega
    · have h99 : k = 99 := by omega
      subst h99
      go_wp2_with fail
      go_end0
      exact ⟨⟨_, rfl⟩, .inl ⟨_, rfl, HJ0.out⟩⟩
end Go.Proofs.YtpdecgbfnhaojaaGreat
