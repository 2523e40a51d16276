/-
  Walks of the layer 'symbol': Lost, Changed, Chain.
-/
import Derived.Test.YtmnlkndbdcdngaaSymF
import Derived.Test.YtmnlkndbdcdngaaTail
namespace Go.Proofs.Ytmnlkndbdcdngaa
open Go.RowKit Sb Sk Go.Sort
set_option linter.unusedVariables false

set_option maxRecDepth 100000 in
theorem Lost_any (oa : Int) (aa : Option Addr) (na ca : Nat) (a : List Mk) (ob : Int) (ab : Option Addr) (nb cb : Nat) (b : List Mk) (w : World) (ha : Sl w 3 cM aa na ca a) (hb : Sl w 3 cM ab nb cb b) :
    Calls Try.prog 18 #[.agg #[.int .i64 oa, .slice aa na ca], .agg #[.int .i64 ob, .slice ab nb cb]] w (Syms w (symsF oa a ob b isLost)) := by
  obtain ⟨W0, hW0, HB_W0, hZ, hn, hm⟩ := boxes2 w [.int .i64 oa, .slice aa na ca] [.int .i64 ob, .slice ab nb cb] 24 24
  have H_n := Lib.hid hn
  have H_m := Lib.hid hm
  have HSA := Lib.hid (ha.below HB_W0)
  have HSB := Lib.hid (hb.below HB_W0)
  clear ha hb hn hm hZ
  generalize hp : symsF oa a ob b isLost = p at *
  have HP := Lib.hid hp
  clear hp
  obtain ⟨q_n_0, q_n_1⟩ := H_n.out.c2
  obtain ⟨q_m_0, q_m_1⟩ := H_m.out.c2
  go_enter Try.func18, Try.ntmps18
  go_wp2_with fail
  refine (symbols_any 37 isLost lost1_any enters_lost1 oa aa na ca a ob ab nb cb b _ HSA.out HSB.out).mono ?_
  rintro e w' ⟨ao, n, cap, rfl, hsl, ho, hb⟩
  rw [HP.out] at hsl ho ⊢
  clear hW0
  go_wp2_with fail
  go_ret2
  exact ⟨ao, n, cap, rfl, hsl, ho.mono HB_W0.size, after0 HB_W0 hb⟩
set_option maxRecDepth 100000 in
theorem Changed_any (oa : Int) (aa : Option Addr) (na ca : Nat) (a : List Mk) (ob : Int) (ab : Option Addr) (nb cb : Nat) (b : List Mk) (w : World) (ha : Sl w 3 cM aa na ca a) (hb : Sl w 3 cM ab nb cb b) :
    Calls Try.prog 21 #[.agg #[.int .i64 oa, .slice aa na ca], .agg #[.int .i64 ob, .slice ab nb cb]] w (Syms w (symsF oa a ob b isChanged)) := by
  obtain ⟨W0, hW0, HB_W0, hZ, hn, hm⟩ := boxes2 w [.int .i64 oa, .slice aa na ca] [.int .i64 ob, .slice ab nb cb] 24 24
  have H_n := Lib.hid hn
  have H_m := Lib.hid hm
  have HSA := Lib.hid (ha.below HB_W0)
  have HSB := Lib.hid (hb.below HB_W0)
  clear ha hb hn hm hZ
  generalize hp : symsF oa a ob b isChanged = p at *
  have HP := Lib.hid hp
  clear hp
  obtain ⟨q_n_0, q_n_1⟩ := H_n.out.c2
  obtain ⟨q_m_0, q_m_1⟩ := H_m.out.c2
  go_enter Try.func21, Try.ntmps21
  go_wp2_with fail
  refine (symbols_any 38 isChanged changed1_any enters_changed1 oa aa na ca a ob ab nb cb b _ HSA.out HSB.out).mono ?_
  rintro e w' ⟨ao, n, cap, rfl, hsl, ho, hb⟩
  rw [HP.out] at hsl ho ⊢
  clear hW0
  go_wp2_with fail
  go_ret2
  exact ⟨ao, n, cap, rfl, hsl, ho.mono HB_W0.size, after0 HB_W0 hb⟩
end Go.Proofs.Ytmnlkndbdcdngaa
