/-
  Walks of the layer 'follow': the numbers of a set, in rising order.
-/
import Derived.Test.YtofilkphaelceaaFoF
set_option linter.unusedVariables false
namespace Go.Proofs.Ytofilkphaelceaa
open Go Go.RowKit Fo Sk Go.Sort

def srt (l : List Int) : List Int := l.mergeSort fun x y => decide (x ≤ y)
theorem srt_mem {l : List Int} {x : Int} : x ∈ srt l ↔ x ∈ l := (List.mergeSort_perm l _).mem_iff
theorem srt_sorted (l : List Int) : (srt l).Pairwise (· ≤ ·) := by
  have := List.pairwise_mergeSort (le := fun x y : Int => decide (x ≤ y)) (fun a b c h1 h2 => by simp at *; omega) (fun a b => by simp; omega) l
  exact this.imp (fun h => by simpa using h)
/-- the library's sort of integers, at a slice of the call's own (a premise: paid in the statements' texts) -/
def SortOk : Prop := ∀ (w : World) (base : Nat) (v : Value) (ys : List Int), OwnL w base 3 1 cI v ys → ys.length ≤ 1000000 →
    Calls Try.prog 59 #[v] w (fun e w' => e = .returned (.tuple #[]) ∧ OwnL w' base 3 1 cI v (srt ys) ∧ w.grownBy w' v.ownBlock)
/-- a rising list is the sorted form of each list that has its numbers, once -/
theorem srt_eq {ys L : List Int} (hn : ys.Nodup) (hL : L.Pairwise (· < ·)) (hm : ∀ x, x ∈ ys ↔ x ∈ L) : srt ys = L := by
  have h1 : (srt ys).Perm L := by
    refine (List.mergeSort_perm ys _).trans ?_
    exact (List.perm_ext_iff_of_nodup hn (hL.imp (fun h => by omega))).2 hm
  refine List.Perm.eq_of_pairwise (le := fun x y : Int => x ≤ y) (fun a b _ _ h1 h2 => by omega) (srt_sorted ys) (hL.imp (fun h => by omega)) h1

theorem key_int_inv {key : Value} {kl : Lit} (h : keyOf Try.prog 3 key = some kl) : ∃ x, key = .int .i64 x ∧ kl = .int .i64 x ∧ I64 x := Maps.keyOf_int_inv Try.underlying3 h

set_option maxRecDepth 100000 in
set_option maxHeartbeats 4000000 in
theorem list_any (hso : SortOk) (b n : Nat) (S : Int → Bool) (L : List Int) (w : World) (hset : SetOf w b n S) (hn : n ≤ 100000) (hL : L.Pairwise (· < ·)) (hLS : ∀ x, I64 x → (S x = true ↔ x ∈ L)) (hL64 : ∀ x ∈ L, I64 x) :
    Calls Try.prog 49 #[.map (some b)] w (fun e w' => ∃ v, e = .returned v ∧ OwnL w' w.heap.size 3 1 cI v L ∧ Below w.heap.size w w') := by
  have hbl := hset.lt
  obtain ⟨D, hown, hhas, _⟩ := hset
  have hsize := hown.size_le
  have HSO := Lib.hid hso
  have HHAS := Lib.hid hhas
  have HLS := Lib.hid hLS
  have HL := Lib.hid hL
  have HL64 := Lib.hid hL64
  obtain ⟨i0, hi, hz0, hz1, hz2⟩ := info_parts info_int
  have HI := Lib.hid hi
  have HZ0 := Lib.hid hz0
  have HZ1 := Lib.hid hz1
  have HZ2 := Lib.hid hz2
  clear hso hhas hLS hL hL64 hi hz0 hz1 hz2
  go_enter Try.func49, Try.ntmps49
  go_wp2_with (at_range; refine wpList_range_own _ rfl _ 52 rfl 3 4 lawI Try.underlying52 _ b n D rfl hown ?_; intro w0 hrg0 hg0 hs0)
  go_frame
  have HB0 : Below w.heap.size w w0 := (Below.refl _ _).grown hg0 (Nat.le_refl _) (fun j hj => by cases hj)
  obtain ⟨R, hR⟩ : ∃ R, w.heap.size = R := ⟨_, rfl⟩
  have HRW := Lib.hid hR
  rw [hR] at hrg0 hs0 hbl
  have HRG0 := Lib.hid hrg0
  have hs0' : R + 1 ≤ w0.heap.size := by omega
  have HL0 := Lib.hid (show ∀ x, x ∈ ([] : List Int) ↔ (I64 x ∧ Maps.has D (.int .i64 x) = true ∧ Maps.has D (.int .i64 x) = false) from fun x => ⟨fun h => (by cases h), fun ⟨_, h1, h2⟩ => (by rw [h1] at h2; cases h2)⟩)
  rw [hR]
  clear hR hrg0 hg0 hs0 hown
  go_loopw [3] (fun o wr => ∃ (ys : List Int) (left : Lit → Bool) (cnt : Nat), Hid (wr.ranges Try.prog 3 (plainElem Try.prog 4) b R n D left cnt) ∧ Hid (OwnL wr (R + 1) 3 1 cI o ys) ∧ Hid (ys.Nodup) ∧ Hid (∀ x, x ∈ ys ↔ (I64 x ∧ Maps.has D (.int .i64 x) = true ∧ left (.int .i64 x) = false)) ∧ ys.length + cnt ≤ Maps.size D ∧ Below w.heap.size w wr ∧ R + 1 ≤ wr.heap.size) (fun _ wr => wr.rangeLeft b R)
  case atStart => exact ⟨[], _, _, HRG0.out, OwnL.nil, List.nodup_nil, HL0.out, by simp, HB0, hs0'⟩
  case round =>
    clear HRG0 HL0 HB0 hs0'
    obtain ⟨ys, left, cnt, HRG, HO, HND, HM, hcnt, HB_wr, hsz⟩ := hrel
    go_wp2_with (at_next; refine wpList_next_ranges _ rfl _ rfl 3 lawI (plainElem Try.prog 4) (Value.int .i64) Value.bool (fun key kl hk => by obtain ⟨x, rfl, _⟩ := key_int_inv hk; exact ⟨x, rfl⟩) (fun v y hv => by obtain ⟨c, rfl, _⟩ := plainElem_bool_inv hv; exact ⟨c, rfl⟩) b R n D left cnt rfl HRG.out ?_ ?_)
    · intro hc0 hl0
      have HE := Lib.hid (srt_eq HND.out HL.out (fun x => by
        rw [HM.out]
        constructor
        · rintro ⟨h1, h2, _⟩; rw [HHAS.out x h1] at h2; exact (HLS.out x h1).1 h2
        · intro hx; have h1 := HL64.out x hx; exact ⟨h1, by rw [HHAS.out x h1]; exact (HLS.out x h1).2 hx, hl0 _⟩))
      have HC := Lib.hid (HSO.out _ _ _ _ HO.out (by omega))
      clear hl0 hc0
      go_wp2_with fail
      refine HC.out.mono ?_
      rintro e wc ⟨rfl, ho, hgr⟩
      rw [HE.out] at ho
      have HOC := Lib.hid ho
      have HB_wc : Below w.heap.size w wc := HB_wr.trans (below_grown HO.out (by rw [HRW.out]; omega) HB_wr.size hgr)
      clear ho hgr
      go_wp2_with fail
      go_ret
      exact ⟨_, rfl, (HOC.out.mono (by rw [HRW.out]; omega) : _), HB_wc⟩
    · intro x
      constructor
      all_goals
        intro kl dd ps w2 cnt2 hkey hlk hv hat hrg2 hlt hg2 hs2 hen
        obtain ⟨x', ex, rfl, hx64⟩ := key_int_inv hkey
        cases ex
        have hhx : Maps.has D (.int .i64 x) = true := Maps.has_true_of_atKey hat
        have HOB := Lib.hid (own_past HO.out hg2 (Nat.lt_succ_self R))
        have HRG2 := Lib.hid hrg2
        have HNE := Lib.hid (show ∀ k, u3.ownBlock = some k → R + 1 ≤ k from fun k e => (World.ownsRow.lt HO.out k e).1)
        have hsz2 : R + 1 ≤ w2.heap.size := by rw [hs2]; exact hsz
        have HB_w2 : Below w.heap.size w w2 := HB_wr.grown hg2 HB_wr.size (fun j hj => by cases hj; rw [HRW.out]; exact Nat.le_refl _)
        have hnm : x ∉ ys := fun h => by have := ((HM.out x).1 h).2.2; rw [hlk] at this; cases this
        have HND2 := Lib.hid (show (ys ++ [x]).Nodup from List.nodup_append.2 ⟨HND.out, by simp, fun a ha b hb => by simp at hb; subst hb; exact fun e => hnm (e ▸ ha)⟩)
        have HM2 := Lib.hid (show ∀ z, z ∈ ys ++ [x] ↔ (I64 z ∧ Maps.has D (.int .i64 z) = true ∧ (left (.int .i64 z) && !(Lit.int .i64 z).sameKey (.int .i64 x)) = false) from fun z => by
          rw [List.mem_append, HM.out, List.mem_singleton]
          by_cases hzx : z = x
          · subst hzx
            rw [WideAt.sameKey_self (kli _)]
            simp [hx64, hhx]
          · rw [Maps.sameKey_ne (a := .int .i64 z) (b := .int .i64 x) (by simp; exact hzx)]
            simp [hzx])
        have HOX := Lib.hid (HOB.out.alloc (.cells #[.int .i64 x] 3))
        have HSX : Hid (Sl (w2.alloc (.cells #[.int .i64 x] 3)) 1 cI (some ⟨w2.heap.size, 0, none⟩) 1 1 [x]) := Sl.one (x := x) cI_len (Box.new w2 (cI x) 3)
        have hszx : R + 1 ≤ (w2.alloc (.cells #[.int .i64 x] 3)).heap.size := by simp; omega
        have hyl : ys.length ≤ 100000 := by omega
        clear hs2 hat hv hlk hhx hnm hg2 hrg2 hkey HM HND HO HOB
        go_wp2_with (at_builtin; refine wpList_append_sl rfl _ _ 23 rfl (R + 1) 3 i0 _ 1 8 Try.underlying23 HI.out HZ0.out HZ1.out HZ2.out rfl (by decide) cI_len cI_one _ ys rfl HOX.out (some ⟨w2.heap.size, 0, none⟩) 1 1 [x] rfl HSX.out (by unfold maxLen; omega) (by omega) hszx ?_)
        rintro v' w6 ho6 hg6 hgr6
        have HO6 := Lib.hid ho6
        have HB_w6 : Below w.heap.size w w6 := (grew1 HB_w2).trans (hg6 _ (by rw [HRW.out]; omega))
        have HRG6 := Lib.hid ((HRG2.out.alloc (.cells #[.int .i64 x] 3)).kept hgr6 (fun e => by have := HNE.out _ e.symm; omega) (fun e => by have := HNE.out _ e.symm; omega))
        have hs6 : R + 1 ≤ w6.heap.size := Nat.le_trans hszx hgr6.size
        clear ho6 hg6 hgr6 hen HOX HSX hszx
        go_wp2_with fail
        go_roundw
        case rel => exact ⟨ys ++ [x], _, cnt2, HRG6.out, HO6.out, HND2.out, HM2.out, by simp; omega, HB_w6, hs6⟩
        case measure =>
          rw [HRG6.out.left_eq, HRG.out.left_eq]
          exact hlt
end Go.Proofs.Ytofilkphaelceaa
