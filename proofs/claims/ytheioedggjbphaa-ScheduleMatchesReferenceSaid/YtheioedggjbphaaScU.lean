/-
  Walks of the layer 'schedule': the order in which jobs are asked, as an iterator.
-/
import Derived.Test.YtheioedggjbphaaScT
set_option linter.unusedVariables false
namespace Sc
theorem iota_step {n k : Nat} (h : k < n) : ((List.range k) ++ List.replicate (n - k) 0).set k k = (List.range (k + 1)) ++ List.replicate (n - (k + 1)) 0 := by
  rw [List.set_append_right _ _ (by simp), List.length_range, Nat.sub_self]
  obtain ⟨m, hm⟩ : ∃ m, n - k = m + 1 := ⟨n - k - 1, by omega⟩
  rw [hm, show n - (k + 1) = m by omega, List.replicate_succ, List.set_cons_zero, List.range_succ, List.append_assoc]
  rfl
end Sc
namespace Sk
open Go Go.RowKit
theorem Box.low {w w' : World} {B b T : Nat} {cs : List Value} (h : Box w b T cs) (hb : Below B w w') (hlt : b < B) : Box w' b T cs := (hb.block b hlt).trans h
end Sk
namespace Go.Proofs.Ytheioedggjbphaa
open Go Go.RowKit Sc Sk Go.Sort
set_option maxRecDepth 100000 in
set_option maxHeartbeats 4000000 in
theorem stable_any
    (b S base : Nat) (jo : Option Addr) (n cap : Nat) (J : List Jb) (q : List Nat) (w : World) (hb : ∀ W, Below S w W → Box W b 22 [.slice jo n cap]) (hj : ∀ W, Below S w W → Sl W 4 cJ jo n cap J) (ho : OwnL w base 3 1 cN (.slice (some ⟨S, 0, none⟩) q.length q.length) q)
    (hlen : q.length = J.length) (hl : J.length ≤ 19) (hq : q = List.range J.length) (hbs : base ≤ S) :
    Calls Try.prog 69 #[.slice (some ⟨S, 0, none⟩) q.length q.length, .int .i64 q.length, .func (.func 60) #[] #[.pointer (some ⟨b, 0, none⟩)]] w
      (fun e w' => e = .returned (.tuple #[]) ∧ ∃ q', OwnL w' base 3 1 cN (.slice (some ⟨S, 0, none⟩) q.length q.length) q' ∧ AskL J q' ∧ q'.length = q.length ∧ Below S w w') := by
  have HI := Lib.hid (insort_any b S base jo n cap J q w hb hj ho hlen (by omega) hq hbs)
  have hli : (q.length : Int) ≤ 19 := by omega
  clear hb hj ho hlen hl hq
  go_enter Try.func69, Try.ntmps69
  go_wp2_with fail
  go_loopw [7, 8] (fun a bb wr => a = .int .i64 0 ∧ bb = .int .i64 20 ∧ wr = w) (fun _ _ _ => 0)
  case atStart => exact ⟨rfl, rfl, rfl⟩
  case round =>
    obtain ⟨rfl, rfl, rfl⟩ := hrel
    go_wp2_with fail
    refine HI.out.mono ?_
    rintro e w1 ⟨rfl, q', h1, h2, h3, h4⟩
    have HR := Lib.hid (show OwnL w1 base 3 1 cN (.slice (some ⟨S, 0, none⟩) q.length q.length) q' ∧ AskL J q' ∧ q'.length = q.length ∧ Below S wr w1 from ⟨h1, h2, h3, h4⟩)
    clear h1 h2 h3 h4 HI
    go_wp2_with fail
    refine wp_loop_rounds 1 ?_
    rw [rounds_succ]
    go_wp2_with fail
    all_goals try (exfalso; omega)
    go_end0
    exact ⟨rfl, q', HR.out⟩
theorem sortStable_any
    (b S base : Nat) (jo : Option Addr) (n cap : Nat) (J : List Jb) (q : List Nat) (w : World) (hb : ∀ W, Below S w W → Box W b 22 [.slice jo n cap]) (hj : ∀ W, Below S w W → Sl W 4 cJ jo n cap J) (ho : OwnL w base 3 1 cN (.slice (some ⟨S, 0, none⟩) q.length q.length) q)
    (hlen : q.length = J.length) (hl : J.length ≤ 19) (hq : q = List.range J.length) (hbs : base ≤ S) :
    Calls Try.prog 59 #[.slice (some ⟨S, 0, none⟩) q.length q.length, .func (.func 60) #[] #[.pointer (some ⟨b, 0, none⟩)]] w
      (fun e w' => e = .returned (.tuple #[]) ∧ ∃ q', OwnL w' base 3 1 cN (.slice (some ⟨S, 0, none⟩) q.length q.length) q' ∧ AskL J q' ∧ q'.length = q.length ∧ Below S w w') := by
  have HI := Lib.hid (stable_any b S base jo n cap J q w hb hj ho hlen hl hq hbs)
  clear hb hj ho hlen hl hq
  go_enter Try.func59, Try.ntmps59
  go_wp2_with fail
  refine HI.out.mono ?_
  rintro e w1 ⟨rfl, q', h1, h2, h3, h4⟩
  go_wp2_with fail
  go_end0
  exact ⟨rfl, q', h1, h2, h3, h4⟩
theorem values_any (ao : Option Addr) (n c : Nat) (w : World) : Calls Try.prog 62 #[.slice ao n c] w (fun e w' => e = .returned (.func (.func 71) #[] #[.pointer (some ⟨w.heap.size, 0, none⟩)]) ∧ Box w' w.heap.size 30 [.slice ao n c] ∧ Below w.heap.size w w' ∧ w'.heap.size = w.heap.size + 1) := by
  obtain ⟨W0, hW0, HB_W0, hZ, hb⟩ := boxes1 w [.slice ao n c] 30
  have H_b := Lib.hid hb
  have HZ := Lib.hid hZ
  clear hb hZ
  go_enter Try.func62, Try.ntmps62
  go_wp2_with fail
  go_ret
  exact ⟨rfl, H_b.out, HB_W0, HZ.out⟩
set_option maxRecDepth 100000 in
set_option maxHeartbeats 4000000 in
theorem asked_any (jo : Option Addr) (n cap : Nat) (J : List Jb) (w : World) (hj : Sl w 4 cJ jo n cap J) (hl : J.length ≤ 19) :
    Calls Try.prog 47 #[.slice jo n cap] w (fun e w' => ∃ X S q, e = .returned (.func (.func 71) #[] #[.pointer (some ⟨X, 0, none⟩)]) ∧ Box w' X 30 [.slice (some ⟨S, 0, none⟩) J.length J.length] ∧ OwnL w' w.heap.size 3 1 cN (.slice (some ⟨S, 0, none⟩) J.length J.length) q ∧ AskL J q ∧ Below w.heap.size w w' ∧ w.heap.size ≤ X ∧ X < w'.heap.size ∧ S < w'.heap.size) := by
  obtain rfl := hj.len
  have hcapj := hj.max
  have hlej := hj.le
  unfold maxLen at hcapj
  have HJ := Lib.hid hj
  obtain ⟨i0, hi, hz0, hz1, hz2⟩ := info_parts info_int
  have HI := Lib.hid hi
  have HZ0 := Lib.hid hz0
  have HZ1 := Lib.hid hz1
  have HZ2 := Lib.hid hz2
  clear hi hz0 hz1 hz2
  obtain ⟨R, hR⟩ : ∃ R, w.heap.size = R := ⟨_, rfl⟩
  obtain ⟨W0, hW0, HB_W0, hZ, hb⟩ := boxes1 w [.slice jo J.length cap] 22
  rw [hR] at hb hZ
  have H_b := Lib.hid hb
  have HZW := Lib.hid hZ
  have hb0 := hb.c1
  clear hb hZ hj
  go_enter Try.func47, Try.ntmps47
  go_wp2_with (refine wpList_make_full _ rfl _ _ 30 rfl (R + 1) 3 i0 (.int .i64 0) 1 Try.underlying30 HI.out HZ0.out HZ1.out .i64 .i64 _ _ J.length rfl rfl rfl rfl (by rw [HZ2.out]; omega) (by unfold maxLen; omega) (by rw [HZW.out]; exact Nat.le_refl _) ?_; intro W1 ho1 hg1)
  rw [HZW.out] at ho1 ⊢
  have hB1 := below_grown (OwnL.nil (w := W0) (base := R + 1) (e := 3) (size := 1) (enc := cN)) (Nat.le_refl _) (by rw [HZW.out]; exact Nat.le_refl _) hg1
  rw [← HZW.out] at hB1
  have hsn : OwnL W1 (R + 1) 3 1 cN (.slice (some ⟨R + 1, 0, none⟩) J.length J.length) ((List.range 0) ++ List.replicate (J.length - 0) 0) := by
    unfold OwnL
    rw [List.range_zero, List.nil_append, Nat.sub_zero, flat_repl, List.length_replicate]
    rw [show (Value.int .i64 0).cells = #[Value.int .i64 0] from rfl, made_one, Nat.mul_one] at ho1
    exact ho1
  have HO := Lib.hid hsn
  have H_b1 := Lib.hid (H_b.out.below hB1)
  have HB_W1 : Below w.heap.size w W1 := after0 HB_W0 hB1
  have hS1 : R + 1 < W1.heap.size := (World.ownsRow.lt ho1 (R + 1) rfl).2
  clear hW0 hb0 H_b ho1 hg1 hB1 hsn HZW
  go_wp2_with fail
  go_loopw [10] (fun i wr => ∃ k : Nat, k ≤ J.length ∧ i = .int .i64 k ∧ Hid (OwnL wr (R + 1) 3 1 cN (.slice (some ⟨R + 1, 0, none⟩) J.length J.length) ((List.range k) ++ List.replicate (J.length - k) 0)) ∧ Below w.heap.size w wr ∧ Hid (Box wr R 22 [.slice jo J.length cap])) (fun i _ => J.length - (intOf i).toNat)
  case atStart => exact ⟨0, Nat.zero_le _, rfl, HO, HB_W1, H_b1⟩
  case round =>
    clear HO HB_W1 H_b1
    obtain ⟨k, hk, rfl, HO, HB_wr, H_b⟩ := hrel
    by_cases hlt : k < J.length
    · have hlen : ((List.range k) ++ List.replicate (J.length - k) 0).length = J.length := by simp; omega
      have hkk : ((List.range k) ++ List.replicate (J.length - k) 0)[k]? = some 0 := by
        rw [List.getElem?_append_right (by simp), List.length_range, Nat.sub_self, List.getElem?_replicate, if_pos (by omega)]
      have g_0 := HO.out.cellG cN_len (j := k) (i := 0) hkk rfl
      have g_f := HO.out.frozenG
      have hst := OwnL.setG cN_len HO.out (j := k) (by rw [hlen]; exact hlt) (i := 0) (by decide) (u := .int .i64 (k : Int)) (a := k) rfl
      simp only [Nat.mul_one, Nat.add_zero] at g_0 hst
      rw [iota_step hlt] at hst
      have HST := Lib.hid hst
      obtain ⟨V2, hV2⟩ : ∃ V2, wr.setCell ⟨R + 1, k, none⟩ (.int .i64 (k : Int)) = V2 := ⟨_, rfl⟩
      rw [hV2] at HST
      have H_b2 : Hid (Box V2 R 22 [.slice jo J.length cap]) := hV2 ▸ H_b.out.other (by omega)
      have HB_V2 : Below w.heap.size w V2 := hV2 ▸ HB_wr.setCell (p := ⟨R + 1, k, none⟩) (show w.heap.size ≤ R + 1 by omega) _
      clear hst hkk
      go_wp2_with fail
      all_goals try (exfalso; omega)
      go_roundw
      case rel => exact ⟨k + 1, hlt, by go_num, HST.out.1, HB_V2, H_b2⟩
      case measure => simp [intOf] <;> omega
    · obtain rfl : k = J.length := by omega
      have HO2 := Lib.hid (show OwnL wr (R + 1) 3 1 cN (.slice (some ⟨R + 1, 0, none⟩) (List.range J.length).length (List.range J.length).length) (List.range J.length) by
        have := HO.out
        rw [Nat.sub_self, List.replicate_zero, List.append_nil] at this
        rw [List.length_range]
        exact this)
      have HSO := Lib.hid (sortStable_any R (R + 1) (R + 1) jo J.length cap J (List.range J.length) wr (fun W hW => H_b.out.low hW (Nat.lt_succ_self R)) (fun W hW => HJ.out.below (HB_wr.trans (hW.mono (by omega)))) HO2.out (by simp) hl rfl (Nat.le_refl _))
      rw [List.length_range] at HSO
      clear HO HO2
      go_wp2_with fail
      all_goals try (exfalso; omega)
      refine HSO.out.mono ?_
      rintro e w1 ⟨rfl, q, h1, h2, h3, h4⟩
      have HQ := Lib.hid (h1.mono (show w.heap.size ≤ R + 1 by omega))
      have HAK := Lib.hid h2
      have HB_w1 : Below w.heap.size w w1 := HB_wr.trans (h4.mono (by omega))
      have hS2 : R + 1 < w1.heap.size := (World.ownsRow.lt h1 (R + 1) rfl).2
      clear h1 h2 h3 h4 HSO
      go_wp2_with fail
      refine (values_any _ _ _ w1).mono ?_
      rintro e w2 ⟨rfl, hbx, hb2, hz2⟩
      have HX := Lib.hid hbx
      have HQ2 := Lib.hid (HQ.out.below hb2)
      have HB_w2 := after0 HB_w1 hb2
      clear hbx hb2
      go_wp2_with fail
      go_ret
      exact ⟨_, _, q, rfl, HX.out, HQ2.out, HAK.out, HB_w2, HB_w1.size, by omega, by omega⟩
end Go.Proofs.Ytheioedggjbphaa
