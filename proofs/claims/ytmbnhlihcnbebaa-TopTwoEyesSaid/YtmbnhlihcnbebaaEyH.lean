/-
  Walks of the layer 'eyes': the dangers of a state, by rising numbers.
-/
import Derived.Test.YtmbnhlihcnbebaaEyG
set_option linter.unusedVariables false
namespace Go.Proofs.Ytmbnhlihcnbebaa
open Go Go.RowKit Ey Sk

abbrev cI (x : Int) : List Value := [.int .i64 x]
theorem cI_len : ∀ x, (cI x).length = 1 := fun _ => rfl
theorem cI_one : ∀ x, ∀ u ∈ cI x, u.oneCell' = true := by intro x u hu; simp [cI] at hu; subst hu; rfl
theorem info_int : (Try.prog.info? 3).map (fun i => (i.zero, i.size, i.bytes)) = some (some (.int .i64 0), 1, 8) := by kernel_rfl
theorem info_danger : (Try.prog.info? 33).map (fun i => (i.zero, i.size, i.bytes)) = some (some (eD dg0), 12, 96) := by kernel_rfl
/-- the library's sorted keys of a state (a premise: paid in the statements' texts) -/
def KeysOk : Prop := ∀ (b n : Nat) (L : List Dg) (w : World), StOf w b n L → n ≤ 100000 →
    Calls Try.prog 65 #[.func (.func 88) #[] #[.pointer (some ⟨w.heap.size, 0, none⟩)]] (w.alloc (.cells #[.map (some b)] 70)) (fun e w' => ∃ v, e = .returned v ∧ OwnL w' (w.heap.size + 1) 3 1 cI v (L.map Dg.id) ∧ Below w.heap.size w w')
theorem keys_any (b : Nat) (w : World) : Calls Try.prog 66 #[.map (some b)] w (fun e w' => e = .returned (.func (.func 88) #[] #[.pointer (some ⟨w.heap.size, 0, none⟩)]) ∧ w' = w.alloc (.cells #[.map (some b)] 70)) := by
  go_enter Try.func66, Try.ntmps66
  go_wp2_with fail
  go_ret
  exact ⟨rfl, rfl⟩
set_option maxRecDepth 100000 in
set_option maxHeartbeats 4000000 in
theorem list_any (hko : KeysOk) (b n : Nat) (L : List Dg) (w : World) (hst : StOf w b n L) (hn : n ≤ 100000) (hl : L.length ≤ 100000) :
    Calls Try.prog 38 #[.map (some b)] w (fun e w' => ∃ v, e = .returned v ∧ OwnL w' w.heap.size 33 12 cD v L ∧ Below w.heap.size w w') := by
  have HKO := Lib.hid (hko b n L w hst hn)
  have HST := Lib.hid hst
  have HB_w : Below w.heap.size w w := Below.refl _ _
  obtain ⟨i0, hi, hz0, hz1, hz2⟩ := info_parts info_danger
  have HI := Lib.hid hi
  have HZ0 := Lib.hid hz0
  have HZ1 := Lib.hid hz1
  have HZ2 := Lib.hid hz2
  clear hko hst hi hz0 hz1 hz2
  go_enter Try.func38, Try.ntmps38
  go_wp2_with fail
  refine (keys_any b w).mono ?_
  rintro e w' ⟨rfl, rfl⟩
  go_wp2_with fail
  refine HKO.out.mono ?_
  rintro e wa ⟨v, rfl, ho, hb⟩
  have HB_wa := hb
  obtain ⟨so, sc, rfl, hsl⟩ := ho.sl cI_len
  rw [List.length_map] at hsl ⊢
  have HSL := Lib.hid hsl
  have hle := hsl.le
  have hcap := hsl.max
  unfold maxLen at hcap
  clear ho hsl hb HKO
  go_wp2_with fail
  go_loopw [3, 10] (fun o i wr => ∃ k : Nat, k ≤ L.length ∧ i = .int .i64 k ∧ Hid (Below wa.heap.size wa wr) ∧ Hid (OwnL wr wa.heap.size 33 12 cD o (L.take k))) (fun _ i _ => L.length - (intOf i).toNat)
  case atStart => exact ⟨0, Nat.zero_le _, rfl, Below.refl _ _, OwnL.nil⟩
  case round =>
    obtain ⟨k, hk, rfl, HB5, HO⟩ := hrel
    have HB_wr := after0 HB_wa HB5.out
    by_cases hlt : k < L.length
    · have hlt2 : k < (L.map Dg.id).length := by simpa using hlt
      obtain ⟨b', off, rfl, hb, hrow⟩ := (HSL.out.below HB5.out).get hlt2
      have e_0 := (hrow k hlt2).c1
      rw [Nat.mul_one, List.getElem_map] at e_0
      have hmem := List.getElem_mem hlt
      have hg : gt L L[k].id = L[k] := by unfold gt; rw [HST.out.1.fnd_mem hmem]; rfl
      have hlook := (HST.out.below HB_wr).look (HST.out.2.1 _ hmem)
      rw [hg] at hlook
      have HSUC := Lib.hid (show L.take (k + 1) = L.take k ++ [L[k]] by rw [List.take_add_one, List.getElem?_eq_getElem hlt, Option.toList_some])
      have hyl : (L.take k).length ≤ k := by rw [List.length_take]; omega
      clear hrow hmem hg
      generalize L[k] = d at *
      generalize L.take k = ys at *
      have HOX := Lib.hid (HO.out.alloc (.cells (cD d).toArray 33))
      have HSX : Hid (Sl (wr.alloc (.cells (cD d).toArray 33)) 12 cD (some ⟨wr.heap.size, 0, none⟩) 1 1 [d]) := Sl.one (x := d) cD_len (Box.new wr (cD d) 33)
      have hsz : wa.heap.size ≤ (wr.alloc (.cells (cD d).toArray 33)).heap.size := by have := HB5.out.size; simp; omega
      go_wp2_with (at_builtin; refine wpList_append_sl rfl _ _ 24 rfl wa.heap.size 33 i0 _ 12 96 Try.underlying24 HI.out HZ0.out HZ1.out HZ2.out rfl (by decide) cD_len cD_one _ ys rfl HOX.out (some ⟨wr.heap.size, 0, none⟩) 1 1 [d] rfl HSX.out (by unfold maxLen; omega) (by omega) hsz ?_)
      rintro v' w6 ho6 hg6 hgr6
      have HB_6 : Below wa.heap.size wa w6 := (grew1 HB5.out).trans (hg6 _ (Nat.le_refl _))
      have HO6 := Lib.hid ho6
      clear hg6 hgr6 ho6 HOX HSX hsz e_0 HO hlook
      go_wp2_with fail
      go_roundw
      case rel => exact ⟨k + 1, hlt, by go_num, HB_6, by rw [HSUC.out]; exact HO6.out⟩
      case measure => simp [intOf] <;> omega
    · obtain rfl : k = L.length := by omega
      rw [List.take_length] at HO
      go_wp2_with fail
      go_ret
      exact ⟨_, rfl, HO.out.mono HB_wa.size, HB_wr⟩
end Go.Proofs.Ytmbnhlihcnbebaa
