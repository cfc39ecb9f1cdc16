/- Contract of gather.poly: the canonical form of what was gathered. -/
import Derived.Test.YtpbapoanjkekmaaGreatZJ
namespace Go.Proofs.YtpbapoanjkekmaaGreat
open Go.RowKit Go.Sort

theorem keep_map (ps : List PT) : ((flt ps ps.length).map PT.tm) = (ps.map PT.tm).filter fun t => !decide (t.1 = 0) := by
  unfold flt
  rw [List.take_length, List.filter_map]
  rfl
theorem perm_poly {ts : List Tm} {ps qs : List PT} (hI : GInv ts (ps.map PT.tm)) (hp : qs.Perm (flt ps ps.length)) (hs : (qs.map PT.tm).Pairwise fun s t => ¬ ltM s.2 t.2) :
    Canon (qs.map PT.tm) ∧ (∀ m, cf (qs.map PT.tm) m = cf ts m) ∧ qs.length ≤ ts.length := by
  have h := hI.canon (q := qs.map PT.tm) (by rw [← keep_map]; exact hp.map _) hs
  simpa using h

set_option maxHeartbeats 1000000 in
set_option maxRecDepth 100000 in
theorem ins_nil (v u : Value) (w : World) : Calls Tryz.prog 91 #[v, .int .i64 0, .int .i64 0, u] w fun e w' => e = .returned (.tuple #[]) ∧ w = w' := by
  go_enter Tryz.func91, Tryz.ntmps91
  go_wp2_with fail
  go_loopg [8] 0 (fun gn i wr => gn = 0 ∧ i = .int .i64 1 ∧ w = wr)
  case atStart => exact ⟨rfl, rfl, rfl⟩
  case round =>
    obtain ⟨_, rfl, rfl⟩ := hrel
    go_wp2_with fail
    go_end0
    exact ⟨rfl, rfl⟩
set_option maxHeartbeats 1000000 in
set_option maxRecDepth 100000 in
theorem pdq_nil (v u : Value) (x : Int) (w : World) : Calls Tryz.prog 80 #[v, .int .i64 0, .int .i64 0, .int .i64 x, u] w fun e w' => e = .returned (.tuple #[]) ∧ w = w' := by
  go_enter Tryz.func80, Tryz.ntmps80
  go_wp2_with fail
  go_loopg [1, 2] 0 (fun gn a b wr => gn = 0 ∧ a = .int .i64 0 ∧ b = .int .i64 0 ∧ w = wr)
  case atStart => exact ⟨rfl, rfl, rfl, rfl⟩
  case round =>
    obtain ⟨_, rfl, rfl, rfl⟩ := hrel
    go_wp2_with (first | (go_at_call 91; refine (ins_nil _ _ _).mono ?_; rintro e w' ⟨rfl, rfl⟩))
    refine bodyPost_ret (v := .tuple #[]) (results_none rfl _ _ _) rfl ?_
    exact ⟨rfl, rfl⟩
set_option maxHeartbeats 1000000 in
set_option maxRecDepth 100000 in
theorem sort_nil (A : Option Addr) (c : Nat) (u : Value) (w : World) : Calls Tryz.prog 56 #[.slice A 0 c, u] w fun e w' => e = .returned (.tuple #[]) ∧ w = w' := by
  have hl : Calls Tryz.prog 81 #[.int .u64 0] w fun e w' => e = .returned (.int .i64 ((Go.Lib.bitLen 0 : Nat) : Int)) ∧ w' = w := Go.Proofs.Any.bits_Len (Go.Proofs.SlLaysF0.n15.bits (P := Tryz.prog) (ρ := Tryz.pdqT_ren) { Tryz.pdqT with }) 0 w (by omega) (by omega)
  have HL := Lib.hid hl
  clear hl
  go_enter Tryz.func56, Tryz.ntmps56
  go_wp2_with (first | (go_at_call 81; refine HL.out.mono ?_; rintro e w' ⟨rfl, rfl⟩) | (go_at_call 80; refine (pdq_nil _ _ _ _).mono ?_; rintro e w' ⟨rfl, rfl⟩))
  go_end0
  exact ⟨rfl, rfl⟩
theorem own_ge {w : World} {base n size : Nat} {e : TypeId} {v : Value} {xs : List Value} (h : w.ownsRow base e size v n xs) {q : Nat} (hq : v.ownBlock = some q) : base ≤ q := by
  rcases h.2 with ⟨rfl, _⟩ | ⟨g, cap, cur, rfl, hb, _⟩
  · simp [Value.ownBlock] at hq
  · simp [Value.ownBlock] at hq; omega
set_option maxHeartbeats 4000000 in
set_option maxRecDepth 100000 in
theorem poly_any (base g mb : Nat) (v : Value) (ts : List Tm) (ps : List PT) (w : World) (hG : GAt w base g mb v ps) (hI : GInv ts (ps.map PT.tm)) (hlen : ps.length ≤ 100000) (hbig : nrm ts < Big) :
    Calls Tryz.prog 37 #[.pointer (some ⟨g, 0, none⟩)] w (PolyRes (cf ts) ts.length w) := by
  obtain ⟨i0, hi0, hz0, hz1, hz2⟩ := info_parts Tryz.infoTerm
  obtain ⟨As, cs, rfl⟩ := own_slice6 hG.row
  have hin : PolyIn w w.heap.size As ps := POwn.polyIn ⟨hG.row, hG.dg, hG.cn⟩
  have HIN := Lib.hid hin
  have HPP := Lib.hid (fun (qs : List PT) => @perm_poly ts ps qs hI)
  have HPL := Lib.hid (fun (p : PT) (hp : p ∈ ps) => show p.ds.length ≤ 600 by
    rw [(hG.cn p hp).ds]
    exact dig_len_big (Nat.lt_of_le_of_lt (hI.mem_nrm (List.mem_map.2 ⟨p, hp, rfl⟩)) hbig))
  have HDG := Lib.hid hG.dg
  have HCN := Lib.hid hG.cn
  have g1 : w.cell? ⟨g, 1, none⟩ = some (.slice As ps.length cs) := hG.gb.cell 1
  have hcap : ps.length ≤ cs := by
    rcases hG.row.2 with ⟨h, h'⟩ | ⟨_, _, _, hv, _, _, hc, _⟩
    · omega
    · injection hv with _ _ e; omega
  generalize hpn : ps.length = pn at *
  have HPN := Lib.hid hpn
  clear hpn hG hI hin hbig
  go_enter Tryz.func37, Tryz.ntmps37
  go_wp2_with fail
  go_loopg [3, 5, 11] pn (fun gn rv _ ix wr => ∃ (k : Nat), k ≤ pn ∧ gn = pn - k ∧ ix = .int .i64 k ∧ wr.ownsRow w.heap.size 56 6 rv (flt ps k).length ((flt ps k).flatMap PT.cells) ∧ Below w.heap.size w wr)
  case atStart => exact ⟨0, Nat.zero_le _, rfl, rfl, ⟨rfl, .inl ⟨rfl, rfl⟩⟩, Below.refl _ _⟩
  case round =>
    obtain ⟨k, hk, hgk, rfl, hown, hbl⟩ := hrel
    have HG := Lib.hid hgk; clear hgk
    have hfl := flt_len ps k
    obtain ⟨Ar, cr, rfl⟩ := own_slice6 hown
    by_cases hlt : k < pn
    · obtain ⟨p, hp⟩ : ∃ p, ps[k]? = some p := ⟨_, List.getElem?_eq_getElem (by have := HPN.out; omega)⟩
      have hpm := List.mem_of_getElem? hp
      obtain ⟨b, o, rfl, hbb, c0, c1, c2, c3, c4, c5⟩ := (HIN.out.below hbl).at_ hp
      have hnin := (HIN.out.below hbl).nt p hpm
      have hpl := HPL.out p hpm
      have i1 : (k : Int) < (pn : Int) := by omega
      have i2 : (0 : Int) ≤ (k : Int) := by omega
      have HY := Lib.hid (fun (h : p.tm.1 ≠ 0) => flt_yes hp h)
      have HNo := Lib.hid (fun (h : p.tm.1 = 0) => flt_no hp h)
      have HSG := Lib.hid (fun (W : World) (hW : Below w.heap.size wr W) => Sign_any p.ng p.A p.c w.heap.size p.ds W (Nat.le_trans hbl.size hW.size) (hnin.below hW) (by omega))
      have HPC := Lib.hid (show p.cells = [.bool p.ng, .slice p.A p.ds.length p.c, .int .i64 p.m.1, .int .i64 p.m.2.1, .int .i64 p.m.2.2.1, .int .i64 p.m.2.2.2] from rfl)
      have htm : p.tm.1 = ival p.ng p.ds := rfl
      rw [htm] at HY HNo
      clear htm hnin
      generalize p.m.1 = m0 at *
      generalize p.m.2.1 = m1 at *
      generalize p.m.2.2.1 = m2 at *
      generalize p.m.2.2.2 = m3 at *
      generalize ival p.ng p.ds = zz at *
      generalize p.ng = ng at *
      generalize p.A = A1 at *
      generalize p.c = c1' at *
      generalize p.ds = ds at *
      have HX := Lib.hid (boxes2 wr 56 31 #[.bool ng, .slice A1 ds.length c1', .int .i64 m0, .int .i64 m1, .int .i64 m2, .int .i64 m3] #[.bool ng, .slice A1 ds.length c1'])
      have HRD := Lib.hid (fun (X : World) => Reads.six_new X ([.bool ng, .slice A1 ds.length c1', .int .i64 m0, .int .i64 m1, .int .i64 m2, .int .i64 m3] : List Value) rfl 56)
      by_cases hz : zz = 0
      · have HF := Lib.hid (HNo.out hz)
        have hs0 : sgnOf zz = 0 := by rw [hz]; rfl
        rw [hs0] at HSG
        clear hs0 hz HY HNo
        go_wp2_with fail
        refine (HSG.out _ ((Below.refl _ _).alloc hbl.size _)).mono ?_
        rintro e w1 ⟨rfl, rfl⟩
        obtain ⟨hx0, _, _, _⟩ := HX.out
        go_wp2_with fail
        go_roundg (pn - (k + 1))
        case rel => exact ⟨k + 1, by omega, rfl, by go_num, by rw [HF.out]; exact own_old hown hx0, hbl.trans (hx0.mono hbl.size)⟩
        case measure => have := HG.out; omega
      · have HF := Lib.hid (HY.out hz)
        have hs0 : (sgnOf zz != 0) = true := by unfold sgnOf; split <;> simp
        generalize sgnOf zz = sg at *
        clear hz HY HNo
        go_wp2_with fail
        refine (HSG.out _ ((Below.refl _ _).alloc hbl.size _)).mono ?_
        rintro e w1 ⟨rfl, rfl⟩
        obtain ⟨hx0, k0, k1, hs⟩ := HX.out
        clear HX HSG
        generalize (wr.alloc (.cells #[.bool ng, .slice A1 ds.length c1', .int .i64 m0, .int .i64 m1, .int .i64 m2, .int .i64 m3] 56)).alloc (.cells #[.bool ng, .slice A1 ds.length c1'] 31) = X at *
        have HS := Lib.hid hs; clear hs
        have d0 : X.cell? ⟨wr.heap.size, 0, none⟩ = some (.bool ng) := k0.cell 0
        have d1 : X.cell? ⟨wr.heap.size, 1, none⟩ = some (.slice A1 ds.length c1') := k0.cell 1
        have d2 : X.cell? ⟨wr.heap.size, 2, none⟩ = some (.int .i64 m0) := k0.cell 2
        have d3 : X.cell? ⟨wr.heap.size, 3, none⟩ = some (.int .i64 m1) := k0.cell 3
        have d4 : X.cell? ⟨wr.heap.size, 4, none⟩ = some (.int .i64 m2) := k0.cell 4
        have d5 : X.cell? ⟨wr.heap.size, 5, none⟩ = some (.int .i64 m3) := k0.cell 5
        have hrd := HRD.out X
        have hone : ∀ u ∈ ([.bool ng, .slice A1 ds.length c1', .int .i64 m0, .int .i64 m1, .int .i64 m2, .int .i64 m3] : List Value), u.oneCell' = true := by rw [show ([.bool ng, .slice A1 ds.length c1', .int .i64 m0, .int .i64 m1, .int .i64 m2, .int .i64 m3] : List Value) = p.cells from HPC.out.symm]; exact cells_one1 p
        have HONE := Lib.hid hone
        have hx1 := (hx0.alloc hx0.size (.cells #[.bool ng, .slice A1 ds.length c1', .int .i64 m0, .int .i64 m1, .int .i64 m2, .int .i64 m3] 56))
        have hro := own_old hown hx1
        clear hone
        go_wp2_with (first | (at_builtin; refine wpList_append_any _ rfl (.tmp 19) (.tmp 21) 23 rfl w.heap.size 56 i0 _ 6 64 Tryz.underlying23 hi0 hz0 hz1 hz2 rfl (by decide) (.slice Ar (flt ps k).length cr) (flt ps k).length _ rfl hro (X.heap.size + 1) (some ⟨X.heap.size, 0, none⟩) 1 1 ([.bool ng, .slice A1 ds.length c1', .int .i64 m0, .int .i64 m1, .int .i64 m2, .int .i64 m3] : List Value) rfl hrd HONE.out (by unfold maxLen; omega) (by omega) (Nat.le_trans hbl.size hx1.size) ?_; intro v' w4 hown4 hg4 hat4))
        have hb4 : Below w.heap.size w w4 := (hbl.trans (hx1.mono hbl.size)).grown hg4 (Nat.le_trans hbl.size hx1.size) (fun q hq => own_ge hro hq)
        go_roundg (pn - (k + 1))
        case rel => exact ⟨k + 1, by omega, rfl, by go_num, by rw [HF.out, flat_snoc, List.length_append, HPC.out]; exact hown4, hb4⟩
        case measure => have := HG.out; omega
    · obtain rfl : k = pn := by omega
      have hdgr : ∀ q ∈ flt ps k, NatB wr q.A q.ds ∧ q.ds.length ≤ q.c := fun q hq => by
        have hm : q ∈ ps := List.mem_of_mem_take (List.mem_filter.1 hq).1
        exact ⟨(HDG.out q hm).1.old hbl, (HDG.out q hm).2⟩
      have hcnr : ∀ q ∈ flt ps k, Cn q := fun q hq => HCN.out q (List.mem_of_mem_take (List.mem_filter.1 hq).1)
      by_cases h0 : (flt ps k).length = 0
      · have hnil : flt ps k = [] := List.eq_nil_of_length_eq_zero h0
        have HNIL := Lib.hid hnil
        rw [hnil] at hown
        clear hnil h0 hdgr hcnr hfl
        generalize flt ps k = fl at *
        obtain rfl := HNIL.out
        go_wp2_with (first | (go_at_call 56; refine (sort_nil _ _ _ _).mono ?_; rintro e w' ⟨rfl, rfl⟩))
        go_ret
        obtain ⟨h1, h2, h3⟩ := HPP.out [] (List.Perm.refl _) List.Pairwise.nil
        exact ⟨Ar, cr, [], rfl, ⟨hown, fun _ h => by simp at h, fun _ h => by simp at h⟩, h1, h2, h3, hbl⟩
      · obtain ⟨rb, rcap, hv', hbr, hrl⟩ := hown.form (by omega)
        injection hv' with e1 _ e2
        subst e1
        subst e2
        have hH := holds_own hown
        have hsn := SortT_any rb cr (flt ps k).toArray wr hH hrl (by simp; omega)
        simp only [List.size_toArray] at hsn
        have HSN := Lib.hid hsn
        have HOW := Lib.hid hown
        have HDR := Lib.hid hdgr; have HCR := Lib.hid hcnr
        have HBE := Lib.hid (fun (n : Nat) (os : Array Obj) (qs : List PT) => below_sortW (n := n) (os := os) qs hbl.size hbr)
        clear hsn hH hown h0 hdgr hcnr
        go_wp2_with (first | (go_at_call 56; refine HSN.out.mono ?_; rintro e w' ⟨rfl, d', n, os, hpm, hst, rfl⟩))
        go_ret
        obtain ⟨hp1, hp2⟩ := perm_in hpm
        have hst' := sorted_in hp2 hst
        obtain ⟨h1, h2, h3⟩ := HPP.out d'.toList hp1 hst'
        have hdl : d'.toList.length = (flt ps k).length := hp1.length_eq
        have hown' := own_sortW (n := n) (os := os) hdl HOW.out
        obtain ⟨cur, hkr, _⟩ := own_blk HOW.out
        refine ⟨_, cr, d'.toList, by rw [← hdl]; rfl, ⟨hown', fun q hq => ?_, fun q hq => HCR.out q (hp1.mem_iff.1 hq)⟩, h1, h2, h3, hbl.trans (HBE.out n os d'.toList)⟩
        have hq' := hp1.mem_iff.1 hq
        refine ⟨(HDR.out q hq').1.keep fun g' cs' hb' => ?_, (HDR.out q hq').2⟩
        have hne : g' ≠ rb := fun e => by
          subst e
          unfold Blk at hb' hkr
          rw [hb'] at hkr
          injection hkr with hkr
          injection hkr with _ ht
          exact absurd ht (by decide)
        exact (far_sortW d'.toList hb'.lt hne).trans hb'
end Go.Proofs.YtpbapoanjkekmaaGreat
