/- Contract of sparse.Mul. -/
import Derived.Test.YtnghlhcekghciaaGreatDoorZH
namespace Go.Proofs.YtnghlhcekghciaaGreatDoor
open Go.RowKit
attribute [local go_sem ↓] Go.wp_at_zero Go.wp_at_succ

theorem PGood.abs {w : World} {base N M : Nat} {E : Int} {v : Value} {ps : List PT} {F : Mo → Int} (h : PGood w base v ps F N E M) {p : PT} (hp : p ∈ ps) : (ival p.ng p.ds).natAbs ≤ M := Nat.le_trans (nrm_mem (t := p.tm) (List.mem_map.2 ⟨p, hp, rfl⟩)) h.nm
theorem pw_lt {a b : Nat} (h : a < b) : pw a < pw b := Nat.pow_lt_pow_right (by omega) h
theorem SMul_fin {ps qs ps' qs' : List PT} {N1 N2 M1 M2 : Nat} {E1 E2 : Int} {W1 W2 : World} {b1 b2 : Nat} {v1 v2 : Value} (g1 : PGood W1 b1 v1 ps' (cf (ps.map PT.tm)) N1 E1 M1) (g2 : PGood W2 b2 v2 qs' (cf (qs.map PT.tm)) N2 E2 M2)
    {w : World} {e : Ending} {w' : World} (h : PolyRes (cf (mulL (ps'.map PT.tm) (qs'.map PT.tm))) (mulL (ps'.map PT.tm) (qs'.map PT.tm)).length w e w') :
    PRes (mulC (ps.map PT.tm) (qs.map PT.tm)) (N1 * N2) (E1 + E2) (M1 * M2) w e w' := by
  have hmb : ∀ t ∈ mulL (ps'.map PT.tm) (qs'.map PT.tm), vld t.2 = true → MB (E1 + E2) t.2 := fun t ht _ => by
    obtain ⟨a, ha, b, hb, rfl⟩ := mem_mulL ht
    obtain ⟨p, hp, rfl⟩ := List.mem_map.1 ha
    obtain ⟨q, hq, rfl⟩ := List.mem_map.1 hb
    exact (g1.mb p hp).add (g2.mb q hq)
  have hnm : nrm (mulL (ps'.map PT.tm) (qs'.map PT.tm)) ≤ M1 * M2 := by rw [nrm_mulL]; exact Nat.mul_le_mul g1.nm g2.nm
  obtain ⟨A, c, rs, rfl, hg, hb⟩ := h.good hmb hnm
  refine ⟨A, c, rs, rfl, { hg with len := Nat.le_trans hg.len (by rw [len_mulL, List.length_map, List.length_map]; exact Nat.mul_le_mul g1.len g2.len), cf := fun m => ?_ }, hb⟩
  rw [hg.cf, cf_mulL _ _ g1.can.vl g2.can.vl]
  exact mulC_ext g1.cf g2.cf m

end Go.Proofs.YtnghlhcekghciaaGreatDoor
