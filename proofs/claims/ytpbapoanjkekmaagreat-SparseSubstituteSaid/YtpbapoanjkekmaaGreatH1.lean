/- Polynomials that come in and that are handed back, with their sizes; contract of sparse.Normal. -/
import Derived.Test.YtpbapoanjkekmaaGreatGA
namespace Go.Proofs.YtpbapoanjkekmaaGreat
open Go.RowKit

/-- no exponent above E -/
def MB (E : Int) (m : Mo) : Prop := m.1 ≤ E ∧ m.2.1 ≤ E ∧ m.2.2.1 ≤ E ∧ m.2.2.2 ≤ E
theorem MB.mono {E E' : Int} {m : Mo} (h : MB E m) (hE : E ≤ E') : MB E' m := by unfold MB at *; omega
theorem MB.wf {E : Int} {m : Mo} (h : MB E m) (hv : vld m = true) (hE : E ≤ 9223372036854775807) : WfM m := by
  rw [vld_iff] at hv
  unfold MB at h
  unfold WfM WfI
  omega
/-- a polynomial that the call may read: at most N terms, no exponent above E, coefficients that add up to at most M -/
structure PIn (w : World) (B : Nat) (A : Option Addr) (ps : List PT) (N : Nat) (E : Int) (M : Nat) : Prop where
  pin : PolyIn w B A ps
  dl : ∀ p ∈ ps, p.ds.length ≤ 1000
  wf : ∀ p ∈ ps, WfM p.m
  mb : ∀ p ∈ ps, vld p.m = true → MB E p.m
  len : ps.length ≤ N
  nm : nrm (ps.map PT.tm) ≤ M
theorem PIn.below {w w' : World} {B N M : Nat} {E : Int} {A : Option Addr} {ps : List PT} (h : PIn w B A ps N E M) (hb : Below B w w') : PIn w' B A ps N E M := { h with pin := h.pin.below hb }
theorem PIn.more {w : World} {B B' N M : Nat} {E : Int} {A : Option Addr} {ps : List PT} (h : PIn w B A ps N E M) (hb : B ≤ B') : PIn w B' A ps N E M := { h with pin := h.pin.more hb }
theorem PIn.bound {w : World} {B N N' M M' : Nat} {E E' : Int} {A : Option Addr} {ps : List PT} (h : PIn w B A ps N E M) (hN : N ≤ N') (hE : E ≤ E') (hM : M ≤ M') : PIn w B A ps N' E' M' :=
  { h with mb := fun p hp hv => (h.mb p hp hv).mono hE, len := Nat.le_trans h.len hN, nm := Nat.le_trans h.nm hM }
theorem PIn.old {w w' : World} {N M : Nat} {E : Int} {A : Option Addr} {ps : List PT} (h : PIn w w.heap.size A ps N E M) (hb : Below w.heap.size w w') : PIn w' w'.heap.size A ps N E M := (h.below hb).more hb.size
/-- a canonical polynomial that is handed back: its coefficients are F's -/
structure PGood (w : World) (base : Nat) (v : Value) (ps : List PT) (F : Mo → Int) (N : Nat) (E : Int) (M : Nat) : Prop where
  own : POwn w base v ps
  can : Canon (ps.map PT.tm)
  cf : ∀ m, cf (ps.map PT.tm) m = F m
  len : ps.length ≤ N
  mb : ∀ p ∈ ps, MB E p.m
  nm : nrm (ps.map PT.tm) ≤ M
def PRes (F : Mo → Int) (N : Nat) (E : Int) (M : Nat) (w : World) (e : Ending) (w' : World) : Prop :=
  ∃ A c ps, e = .returned (.slice A ps.length c) ∧ PGood w' w.heap.size (.slice A ps.length c) ps F N E M ∧ Below w.heap.size w w'
theorem PGood.vl {w : World} {base N M : Nat} {E : Int} {v : Value} {ps : List PT} {F : Mo → Int} (h : PGood w base v ps F N E M) {p : PT} (hp : p ∈ ps) : vld p.m = true := h.can.vl p.tm (List.mem_map.2 ⟨p, hp, rfl⟩)
theorem PGood.dlen {w : World} {base N M : Nat} {E : Int} {v : Value} {ps : List PT} {F : Mo → Int} (h : PGood w base v ps F N E M) {k : Nat} (hM : M < pw k) {p : PT} (hp : p ∈ ps) : p.ds.length ≤ k := by
  rw [(h.own.cn p hp).ds]
  exact dig_len_pw (Nat.lt_of_le_of_lt (Nat.le_trans (nrm_mem (List.mem_map.2 ⟨p, hp, rfl⟩)) h.nm) hM)
theorem PGood.pin {w : World} {base c n N M : Nat} {E : Int} {A : Option Addr} {ps : List PT} {F : Mo → Int} (h : PGood w base (.slice A n c) ps F N E M) (hE : E ≤ 9223372036854775807) (hM : M < Big) : PIn w w.heap.size A ps N E M where
  pin := h.own.polyIn
  dl p hp := Nat.le_trans (h.dlen (k := 600) hM hp) (by omega)
  wf p hp := (h.mb p hp).wf (h.vl hp) hE
  mb p hp _ := h.mb p hp
  len := h.len
  nm := h.nm
theorem PGood.old {w w' : World} {base N M : Nat} {E : Int} {v : Value} {ps : List PT} {F : Mo → Int} (h : PGood w base v ps F N E M) (hb : Below w.heap.size w w') : PGood w' base v ps F N E M := { h with own := h.own.old hb }
theorem PolyRes.good {ts : List Tm} {N M : Nat} {E : Int} {w : World} {e : Ending} {w' : World} (h : PolyRes (Go.Proofs.YtpbapoanjkekmaaGreat.cf ts) N w e w') (hE : ∀ t ∈ ts, vld t.2 = true → MB E t.2) (hM : nrm ts ≤ M) : PRes (Go.Proofs.YtpbapoanjkekmaaGreat.cf ts) N E M w e w' := by
  obtain ⟨A, c, ps, he, h1, h2, h3, h4, h5⟩ := h
  refine ⟨A, c, ps, he, ⟨h1, h2, h3, h4, fun p hp => ?_, Nat.le_trans (h2.nrm_le h3) hM⟩, h5⟩
  obtain ⟨s, hs, hv, e⟩ := h2.src h3 (List.mem_map.2 ⟨p, hp, rfl⟩)
  have := hE s hs hv
  rw [e] at this
  exact this

theorem take_snoc_tm {ps : List PT} {k : Nat} {p : PT} (hk : ps[k]? = some p) : (ps.take (k + 1)).map PT.tm = (ps.take k).map PT.tm ++ [p.tm] := by
  have hl : k < ps.length := (List.getElem?_eq_some_iff.1 hk).1
  have e : ps[k] = p := (List.getElem?_eq_some_iff.1 hk).2
  rw [List.take_succ_eq_append_getElem hl, List.map_append, e]
  rfl
theorem nrm_take (ts : List Tm) (k : Nat) : nrm (ts.take k) ≤ nrm ts := by
  have := nrm_append (ts.take k) (ts.drop k)
  rw [List.take_append_drop] at this
  omega
theorem nrm_take_tm (ps : List PT) (k : Nat) : nrm ((ps.take k).map PT.tm) ≤ nrm (ps.map PT.tm) := by rw [List.map_take]; exact nrm_take _ k

set_option maxHeartbeats 2000000 in
set_option maxRecDepth 100000 in
theorem Normal_poly (A : Option Addr) (c B N : Nat) (E : Int) (M : Nat) (ps : List PT) (w : World) (hB : B ≤ w.heap.size) (h : PIn w B A ps N E M) (hN : N ≤ 50000) (hM : M < Big) :
    Calls Tryz.prog 42 #[.slice A ps.length c] w (PRes (cf (ps.map PT.tm)) N E M w) := by
  have hmbt : ∀ t ∈ ps.map PT.tm, vld t.2 = true → MB E t.2 := fun t ht hv => by
    obtain ⟨p, hp, rfl⟩ := List.mem_map.1 ht
    exact h.mb p hp hv
  have HFIN := Lib.hid (fun (W : World) (e : Ending) (w' : World) (hr : PolyRes (cf (ps.map PT.tm)) (ps.map PT.tm).length W e w') => hr.good hmbt h.nm)
  have HLN := Lib.hid (show (ps.map PT.tm).length ≤ N by rw [List.length_map]; exact h.len)
  have hlen := h.len
  have H := Lib.hid h
  generalize hpn : ps.length = pn at *
  have HPN := Lib.hid hpn
  have HNT := Lib.hid (fun k => Nat.le_trans (nrm_take_tm ps k) h.nm)
  clear hpn hmbt h
  go_enter Tryz.func42, Tryz.ntmps42
  go_wp2_with fail
  refine (newG_any w).mono ?_
  rintro e W ⟨g, mb, rfl, hg0, hb0⟩
  go_wp2_with fail
  go_loopg [5, 9] pn (fun gn _ ix wr => ∃ (k : Nat) (v : Value) (gs : List PT), k ≤ pn ∧ gn = pn - k ∧ ix = .int .i64 k ∧ GAt wr w.heap.size g mb v gs ∧ GInv ((ps.take k).map PT.tm) (gs.map PT.tm) ∧ Below w.heap.size w wr)
  case atStart => exact ⟨0, _, [], Nat.zero_le _, rfl, rfl, hg0, GInv.nil, hb0⟩
  case round =>
    obtain ⟨k, v, gs, hk, hgk, rfl, hga, hgi, hbl⟩ := hrel
    have HG := Lib.hid hgk; clear hgk
    by_cases hlt : k < pn
    · obtain ⟨p, hp⟩ : ∃ p, ps[k]? = some p := ⟨_, List.getElem?_eq_getElem (by have := HPN.out; omega)⟩
      have hpm := List.mem_of_getElem? hp
      have hin := H.out.below (hbl.mono hB)
      obtain ⟨b, o, rfl, hbb, c0, c1, c2, c3, c4, c5⟩ := hin.pin.at_ hp
      have hsz := hbl.size
      have hnin := (hin.pin.nt p hpm).more (Nat.le_trans hB hsz)
      have hdl := hin.dl p hpm
      have hwf := hin.wf p hpm
      have i1 : (k : Int) < (pn : Int) := by omega
      have i2 : (0 : Int) ≤ (k : Int) := by omega
      have HT := Lib.hid (take_snoc_tm hp)
      have hlk : ((ps.take k).map PT.tm).length ≤ 100000 := by simp; omega
      have hnk : nrm ((ps.take k).map PT.tm) < Big := Nat.lt_of_le_of_lt (HNT.out k) hM
      have HA := Lib.hid (fun (W' : World) (hW : Below wr.heap.size wr W') => gadd_any w.heap.size g mb v ((ps.take k).map PT.tm) gs p.m p.ng p.A p.c p.ds W' (hga.old hW) hgi (Nat.le_trans hsz hW.size) hwf ((hnin.below hW).more hW.size) hdl hlk hnk)
      have HTM := Lib.hid (show p.tm = (ival p.ng p.ds, p.m) from rfl)
      clear hin hnin hdl hwf hlk hnk hga hgi
      unfold moV at HA
      go_wp2_with fail
      refine (HA.out _ ((Below.refl _ _).alloc (Nat.le_refl _) _)).mono ?_
      rintro e w1 ⟨rfl, v', gs', hga', hgi', ht', _⟩
      have hb1 : Below w.heap.size w w1 := (hbl.alloc hsz _).trans ht'.below
      go_wp2_with fail
      go_roundg (pn - (k + 1))
      case rel => exact ⟨k + 1, v', gs', by omega, rfl, by go_num, hga', by rw [HT.out, HTM.out]; exact hgi', hb1⟩
      case measure => have := HG.out; omega
    · obtain rfl : k = pn := by omega
      have hgl : gs.length ≤ 100000 := by have := hgi.len; simp at this; omega
      have hfull : (ps.take k).map PT.tm = ps.map PT.tm := by rw [← HPN.out, List.take_length]
      rw [hfull] at hgi
      have HP := Lib.hid (poly_any w.heap.size g mb v (ps.map PT.tm) gs wr hga hgi hgl (Nat.lt_of_le_of_lt H.out.nm hM))
      clear hgi hga hfull
      go_wp2_with fail
      refine HP.out.mono ?_
      rintro e w1 hr
      obtain ⟨A1, c1, qs, rfl, hgd, hb2⟩ := HFIN.out _ _ _ hr
      go_wp2_with fail
      go_ret
      exact ⟨A1, c1, qs, rfl, { hgd with own := hgd.own.mono hbl.size, len := Nat.le_trans hgd.len HLN.out }, hbl.trans (hb2.mono hbl.size)⟩
end Go.Proofs.YtpbapoanjkekmaaGreat
