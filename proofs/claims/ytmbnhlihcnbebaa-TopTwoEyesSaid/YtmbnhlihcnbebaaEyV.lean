/-
  The layer 'eyes': the premise on the library's sorted keys, paid.
-/
import Derived.Test.YtmbnhlihcnbebaaEySh
import Derived.Test.YtmbnhlihcnbebaaEyH
set_option linter.unusedVariables false
namespace Go.Proofs
open Go Go.RowKit Go.Maps Go.Sort Go.Shelf
theorem Try.sortsA (m : Nat) : AnyZI.SortsIn Try.prog Try.sortedA_ren Fence.wide m :=
  ⟨fun blk off cap ss W hH hblk hsz => callsIn_wide.2 (AnyM.slices_Sort_int Try.sortA blk off cap ss W hH hblk hsz),
   fun p cap W => callsIn_wide.2 (AnyM.slices_Sort_int_none Try.sortA p cap W)⟩
end Go.Proofs
namespace Go.Proofs.Ytmbnhlihcnbebaa
open Go Go.RowKit Ey Sk Go.Maps Go.Sort Go.Shelf
theorem flat_cI : ∀ l : List Int, l.flatMap cI = l.map (Value.int .i64)
  | [] => rfl
  | x :: l => by rw [List.flatMap_cons, flat_cI l]; rfl
theorem keys_perm {L : List Dg} (hs : Sor L) {ss : List Int} (h : ss.Perm (L.map Dg.id)) : ss.mergeSort (fun x y => decide (x ≤ y)) = L.map Dg.id := by
  have h1 : (ss.mergeSort (fun x y : Int => decide (x ≤ y))).Perm (L.map Dg.id) := (List.mergeSort_perm ss _).trans h
  have h2 : (ss.mergeSort (fun x y : Int => decide (x ≤ y))).Pairwise (· ≤ ·) := by
    have := List.pairwise_mergeSort (le := fun x y : Int => decide (x ≤ y)) (fun a b c h1 h2 => by simp at *; omega) (fun a b => by simp; omega) ss
    exact this.imp (fun h => by simpa using h)
  have h3 : (L.map Dg.id).Pairwise (· ≤ ·) := List.pairwise_map.2 (hs.imp (fun h => Int.le_of_lt h))
  exact List.Perm.eq_of_pairwise (le := fun x y : Int => x ≤ y) (fun a b _ _ h1 h2 => by omega) h2 h3 h1

set_option maxHeartbeats 1000000 in
theorem keys_ok : KeysOk := by
  intro b n L w hst hn
  obtain ⟨hs, h64, D, hown, hhas, hat⟩ := hst
  have hbl := hown.lt
  have hsz := hown.size_le
  have hmax : Maps.size D ≤ maxLen := by unfold maxLen; omega
  have hbytes : Maps.size D * 8 ≤ 140737488355328 := by omega
  have hperm : (intKeys D).Perm (L.map Dg.id) := by
    obtain ⟨es, rfl, hp⟩ := hown.tidy lawI
    obtain ⟨es2, e2, hk⟩ := hown.keysOf
    cases e2
    have hk2 : ∀ p ∈ es, ∃ x, p.1 = .int .i64 x ∧ I64 x := fun p hp => by
      obtain ⟨v, hv⟩ := hk p hp
      obtain ⟨x, _, hx, h64x⟩ := key_int_inv hv
      exact ⟨x, hx, h64x⟩
    refine (perm_intKeys hp (fun p hp => by obtain ⟨x, hx, _⟩ := hk2 p hp; exact ⟨x, hx⟩) ?_ ?_).symm
    · show (L.map Dg.id).Pairwise (· ≠ ·)
      exact List.pairwise_map.2 (hs.imp (fun h => by omega))
    · intro x
      constructor
      · intro hx
        obtain ⟨d, hd, rfl⟩ := List.mem_map.1 hx
        rw [hhas _ (h64 d hd), hs.fnd_mem hd]; rfl
      · intro hx
        have h2 := hx
        rw [has_eq, List.any_eq_true] at h2
        obtain ⟨p, hp, he⟩ := h2
        obtain ⟨y, hy, hy64⟩ := hk2 p hp
        have hyx : y = x := by
          rcases Classical.em (y = x) with h | h
          · exact h
          · rw [hy, Maps.sameKey_ne (by simpa using h)] at he; cases he
        subst hyx
        rw [hhas _ hy64] at hx
        cases hf : fnd L y with
        | none => rw [hf] at hx; cases hx
        | some d => obtain ⟨h1, h2⟩ := fnd_id hf; exact List.mem_map.2 ⟨d, h1, h2⟩
  have hseq : SeqGives Fence.wide 2 Try.prog 88 #[.pointer (some ⟨w.heap.size, 0, none⟩)] encZ (fun ss => ss.Perm (intKeys D)) (Maps.size D) (w.alloc (.cells #[.map (some b)] 70)) :=
    AnyZI.keys_gives (ρ := Try.keysA_ren) { Try.keysA with } Fence.wide _ trivial rfl (by omega) w.heap.size b n D _ (by simp) (by simp) (by
      obtain ⟨es, clock, hb, Ft, hs, hD⟩ := hown
      exact ⟨es, clock, (Below.heap_alloc _ _ b hbl).trans hb, Ft, hs, hD⟩)
  have cS := AnyZI.sorted_in Try.sortedA Fence.wide 5 trivial trivial trivial trivial rfl (by omega) (Try.sortsA _) (enters_of Try.func87 (by kernel_rfl) rfl) 88 #[.pointer (some ⟨w.heap.size, 0, none⟩)] trivial (enters_of Try.func88 (by kernel_rfl) rfl) _ _ hmax hbytes _ hseq
  change CallsIn _ _ Try.prog 65 _ _ _ at cS
  refine ((callsIn_wide (n := 5)).1 cS).mono ?_
  rintro e w' ⟨v, ss, rfl, hS, hrow, hnil, hb⟩
  have e1 := keys_perm hs (hS.trans hperm)
  rw [e1] at hrow
  have hlen : ss.length = (L.map Dg.id).length := (hS.trans hperm).length_eq
  rw [hlen] at hrow
  refine ⟨v, rfl, ?_, (grew1 (Below.refl _ _)).trans (hb.mono (by simp))⟩
  unfold OwnL
  rw [flat_cI]
  have hsz2 : (w.alloc (.cells #[.map (some b)] 70)).heap.size = w.heap.size + 1 := by simp
  rw [hsz2] at hrow
  exact hrow
end Go.Proofs.Ytmbnhlihcnbebaa
