/- dormouselaw04.answers. -/
import Derived.Test.YtmfphojmegfanaaTableC
import Derived.Test.YtmfphojmegfanaaTableR
namespace Go.Proofs.Ytmfphojmegfanaa
open Go.RowKit
set_option linter.unusedVariables false
def ansP (g : Nat) (hz : Int) : PlatV := ⟨⟨some ⟨g, 0, none⟩, 1, [⟨1, 0⟩]⟩, ⟨none, 0, []⟩, ⟨none, 0, []⟩, 0, 0, 0, 0, 0, hz⟩
theorem ansP_ok (w : World) (g : Nat) (hz : Int) (hi : I64 hz) (t : TypeId) (h : w.heap[g]? = some (.cells #[.int .i64 1, .int .i64 0] t (0, 0))) : (ansP g hz).Ok w := by
  have z : I64 0 := ⟨by decide, by decide⟩
  exact ⟨⟨by have := Row.of_block h; exact this, fun x hx => by rw [List.mem_singleton.1 hx]; exact ⟨⟨by decide, by decide⟩, z⟩, by simp [ansP], by simp [ansP]⟩, ⟨Row.nil _ _, by simp [ansP], by simp [ansP], by simp [ansP]⟩, ⟨Row.nil _ _, by simp [ansP], by simp [ansP], by simp [ansP]⟩, z, z, z, z, z, hi⟩
theorem ansP_yes (g : Nat) : checkI (ansP g 1) = 0 := by
  unfold checkI
  rw [if_pos]
  rw [tabB_iff]
  refine ⟨by simp [tabP1, ansP], by simp [tabP2, ansP], ?_, by simp [ansP], by simp [ansP]⟩
  intro n hn l hl
  obtain rfl : n = 0 := by have : n < 1 := hn; omega
  have : l = ⟨1, 0⟩ := by have : some (⟨1, 0⟩ : LevelV) = some l := hl; exact (Option.some.inj this).symm
  subst this
  exact ⟨by decide, by decide, fun m a h => by omega⟩
theorem ansP_no (g : Nat) : checkI (ansP g 0) = 2 := by
  unfold checkI
  rw [if_neg]
  rw [tabB_iff]
  rintro ⟨_, ⟨_, _, _, h⟩, _⟩
  simp [ansP] at h
set_option maxHeartbeats 1000000 in
theorem answers04 (w : World) : Calls Try.prog 32 #[] w fun e w' => e = .returned (.bool true) ∧ Ext w w' := by
  have y1 := ansP_yes w.heap.size
  have y2 := ansP_no w.heap.size
  have Y1 := Lib.hid y1; have Y2 := Lib.hid y2; clear y1 y2
  go_enter Try.func32, Try.ntmps32
  go_wp2_with fail
  refine (check_any (ansP w.heap.size 1) _ (ansP_ok _ _ _ ⟨by decide, by decide⟩ 71 ((show Ext (w.alloc (.cells #[.int .i64 1, .int .i64 0] 71)) _ from (by repeat (first | exact Ext.refl _ | assumption | refine Ext.alloc ?_ _ | refine Ext.drew ?_ | refine Ext.drewN ?_ _ | refine Ext.trans ?_ (by assumption)))).block (heap_alloc_new w _)))).mono ?_
  rintro e w1 ⟨rfl, hb1⟩
  rw [Y1.out]
  obtain ⟨hc1, hf1, hs1⟩ := hb1.rules
  simp only [World.size_alloc] at hs1
  go_wp2_with fail
  refine (check_any (ansP w.heap.size 0) _ (ansP_ok _ _ _ ⟨by decide, by decide⟩ 71 ((show Ext (w.alloc (.cells #[.int .i64 1, .int .i64 0] 71)) _ from (by repeat (first | exact Ext.refl _ | assumption | refine Ext.alloc ?_ _ | refine Ext.drew ?_ | refine Ext.drewN ?_ _ | refine Ext.trans ?_ (by assumption)))).block (heap_alloc_new w _)))).mono ?_
  rintro e w2 ⟨rfl, hb2⟩
  rw [Y2.out]
  clear hc1 hf1 hs1
  go_wp2
  go_ret
  exact ⟨rfl, (by repeat (first | exact Ext.refl _ | assumption | refine Ext.alloc ?_ _ | refine Ext.drew ?_ | refine Ext.drewN ?_ _ | refine Ext.trans ?_ (by assumption)))⟩
end Go.Proofs.Ytmfphojmegfanaa
