/- Contract of sparse.Add. -/
import Derived.Test.YtpbapoanjkekmaaGreatH1
namespace Go.Proofs.YtpbapoanjkekmaaGreat
open Go.RowKit

def preL (p q : List Tm) : Nat → List Tm
  | 0 => []
  | 1 => p
  | _ => p ++ q
theorem preL_nrm (p q : List Tm) (i : Nat) : nrm (preL p q i) ≤ nrm p + nrm q := by
  match i with
  | 0 => simp [preL, nrm]
  | 1 => simp [preL]
  | i + 2 => simp [preL, nrm_append]
theorem preL_len (p q : List Tm) (i : Nat) : (preL p q i).length ≤ p.length + q.length := by
  match i with
  | 0 => simp [preL]
  | 1 => simp [preL]
  | i + 2 => simp [preL]
theorem Tryz.index_two (u v : Value) (j : Nat) (hj : j < 2) (w : World) : (Instr.index 69 (.agg #[u, v]) (.int .i64 (j : Int))).run Tryz.prog w = .ok (if j = 0 then u else v) w := by
  rcases (by omega : j = 0 ∨ j = 1) with rfl | rfl
  · simp [Instr.index, run_underlying Tryz.underlying69, asIntOf, go_sem, Tryz.sizeOf23, Tryz.isAgg23]
  · simp [Instr.index, run_underlying Tryz.underlying69, asIntOf, go_sem, Tryz.sizeOf23, Tryz.isAgg23]

theorem add_sel {w : World} {B N1 N2 M1 M2 : Nat} {E : Int} {A A' : Option Addr} {c c' : Nat} {ps qs : List PT} (h : PIn w B A ps N1 E M1) (h' : PIn w B A' qs N2 E M2) (i : Nat) (hi : i < 2) :
    ∃ Ai ci li Ni Mi, (∀ W, (Instr.index 69 (.agg #[.slice A ps.length c, .slice A' qs.length c']) (.int .i64 (i : Int))).run Tryz.prog W = .ok (.slice Ai li.length ci) W) ∧ PIn w B Ai li Ni E Mi ∧
      preL (ps.map PT.tm) (qs.map PT.tm) (i + 1) = preL (ps.map PT.tm) (qs.map PT.tm) i ++ li.map PT.tm ∧ li.length ≤ N1 + N2 := by
  rcases (by omega : i = 0 ∨ i = 1) with rfl | rfl
  · refine ⟨A, c, ps, N1, M1, fun W => ?_, h, by simp [preL], Nat.le_trans h.len (by omega)⟩
    have := Tryz.index_two (.slice A ps.length c) (.slice A' qs.length c') 0 (by omega) W
    simpa using this
  · refine ⟨A', c', qs, N2, M2, fun W => ?_, h', by simp [preL], Nat.le_trans h'.len (by omega)⟩
    have := Tryz.index_two (.slice A ps.length c) (.slice A' qs.length c') 1 (by omega) W
    simpa using this

set_option maxHeartbeats 4000000 in
set_option maxRecDepth 100000 in
theorem SAdd_any (A A' : Option Addr) (c c' B N1 N2 : Nat) (E : Int) (M1 M2 : Nat) (ps qs : List PT) (w : World) (hB : B ≤ w.heap.size) (h : PIn w B A ps N1 E M1) (h' : PIn w B A' qs N2 E M2) (hN : N1 + N2 ≤ 50000) (hM : M1 + M2 < Big) :
    Calls Tryz.prog 12 #[.slice A ps.length c, .slice A' qs.length c'] w (PRes (fun m => cf (ps.map PT.tm) m + cf (qs.map PT.tm) m) (N1 + N2) E (M1 + M2) w) := by
  have hmbt : ∀ t ∈ ps.map PT.tm ++ qs.map PT.tm, vld t.2 = true → MB E t.2 := fun t ht hv => by
    rcases List.mem_append.1 ht with ht | ht
    · obtain ⟨p, hp, rfl⟩ := List.mem_map.1 ht
      exact h.mb p hp hv
    · obtain ⟨p, hp, rfl⟩ := List.mem_map.1 ht
      exact h'.mb p hp hv
  have hnm : nrm (ps.map PT.tm ++ qs.map PT.tm) ≤ M1 + M2 := by rw [nrm_append]; have := h.nm; have := h'.nm; omega
  have hln : (ps.map PT.tm ++ qs.map PT.tm).length ≤ N1 + N2 := by have := h.len; have := h'.len; simp; omega
  have HFIN := Lib.hid (fun (W : World) (e : Ending) (w' : World) (hr : PolyRes (cf (ps.map PT.tm ++ qs.map PT.tm)) (ps.map PT.tm ++ qs.map PT.tm).length W e w') => hr.good hmbt hnm)
  have HLN := Lib.hid hln
  have HSEL := Lib.hid (fun i hi => add_sel (c := c) (c' := c') h h' i hi)
  have HPN := Lib.hid (fun i => show nrm (preL (ps.map PT.tm) (qs.map PT.tm) i) < Big from Nat.lt_of_le_of_lt (preL_nrm _ _ i) (by rw [← nrm_append]; omega))
  have HPL := Lib.hid (fun i => show (preL (ps.map PT.tm) (qs.map PT.tm) i).length ≤ N1 + N2 from Nat.le_trans (preL_len _ _ i) (by rw [← List.length_append]; exact hln))
  have HCF := Lib.hid (fun m => cf_append (ps.map PT.tm) (qs.map PT.tm) m)
  have HP0 := Lib.hid (show preL (ps.map PT.tm) (qs.map PT.tm) 0 = [] from rfl)
  have HP2 := Lib.hid (show preL (ps.map PT.tm) (qs.map PT.tm) 2 = ps.map PT.tm ++ qs.map PT.tm from rfl)
  clear hmbt hnm hln h h'
  generalize preL (ps.map PT.tm) (qs.map PT.tm) = pre at *
  go_enter Tryz.func12, Tryz.ntmps12
  go_wp2_with fail
  refine (newG_any w).mono ?_
  rintro e W ⟨g, mb, rfl, hg0, hb0⟩
  go_wp2_with fail
  go_loopg [7, 9, 14, 17, 18, 19] 2 (fun gn _ _ ix _ _ _ wr => ∃ (i : Nat) (v : Value) (gs : List PT), i ≤ 2 ∧ gn = 2 - i ∧ ix = .int .i64 i ∧ GAt wr w.heap.size g mb v gs ∧ GInv (pre i) (gs.map PT.tm) ∧ Below w.heap.size w wr)
  case atStart => exact ⟨0, _, [], by omega, rfl, rfl, hg0, by rw [HP0.out]; exact GInv.nil, hb0⟩
  case round =>
    obtain ⟨i, v, gs, hi, hgi0, rfl, hga, hgi, hbl⟩ := hrel
    have HG := Lib.hid hgi0; clear hgi0
    by_cases hlt : i < 2
    · obtain ⟨Ai, ci, li, Ni, Mi, hidx, hin, hpre, hli⟩ := HSEL.out i hlt
      have HPRE := Lib.hid hpre
      have H := Lib.hid hin
      have j1 : (i : Int) < 2 := by omega
      have j0 : (0 : Int) ≤ (i : Int) := by omega
      generalize hpn : li.length = pn at *
      have HLI := Lib.hid hpn
      clear hpn hpre hin
      go_wp2_with fail
      go_loopg [9, 19] pn (fun gn _ ix wr => ∃ (k : Nat) (v : Value) (gs : List PT), k ≤ pn ∧ gn = pn - k ∧ ix = .int .i64 k ∧ GAt wr w.heap.size g mb v gs ∧ GInv (pre i ++ (li.take k).map PT.tm) (gs.map PT.tm) ∧ Below w.heap.size w wr)
      case atStart => exact ⟨0, v, gs, Nat.zero_le _, rfl, rfl, hga, by simpa using hgi, hbl⟩
      case round =>
        obtain ⟨k, v, gs, hk, hgk, rfl, hga, hgi, hbl⟩ := hrel
        have HGK := Lib.hid hgk; clear hgk
        by_cases hlt2 : k < pn
        · obtain ⟨p, hp⟩ : ∃ p, li[k]? = some p := ⟨_, List.getElem?_eq_getElem (by have := HLI.out; omega)⟩
          have hpm := List.mem_of_getElem? hp
          have hin := H.out.below (hbl.mono hB)
          obtain ⟨b, o, rfl, hbb, c0, c1, c2, c3, c4, c5⟩ := hin.pin.at_ hp
          have hsz := hbl.size
          have hnin := (hin.pin.nt p hpm).more (Nat.le_trans hB hsz)
          have hdl := hin.dl p hpm
          have hwf := hin.wf p hpm
          have i1 : (k : Int) < (pn : Int) := by omega
          have i2 : (0 : Int) ≤ (k : Int) := by omega
          have HT := Lib.hid (take_snoc_tm hp)
          have hlk : (pre i ++ (li.take k).map PT.tm).length ≤ 100000 := by
            have := HPL.out i
            simp; omega
          have hnk : nrm (pre i ++ (li.take k).map PT.tm) < Big := by
            have h1 := HPN.out (i + 1)
            rw [HPRE.out, nrm_append] at h1
            have h2 := nrm_take_tm li k
            rw [nrm_append]
            omega
          have HA := Lib.hid (fun (W' : World) (hW : Below wr.heap.size wr W') => gadd_any w.heap.size g mb v (pre i ++ (li.take k).map PT.tm) gs p.m p.ng p.A p.c p.ds W' (hga.old hW) hgi (Nat.le_trans hsz hW.size) hwf ((hnin.below hW).more hW.size) hdl hlk hnk)
          have HTM := Lib.hid (show p.tm = (ival p.ng p.ds, p.m) from rfl)
          clear hin hnin hdl hwf hlk hnk hga hgi hidx
          unfold moV at HA
          go_wp2_with fail
          refine (HA.out _ ((Below.refl _ _).alloc (Nat.le_refl _) _)).mono ?_
          rintro e w1 ⟨rfl, v', gs', hga', hgi', ht', _⟩
          have hb1 : Below w.heap.size w w1 := (hbl.alloc hsz _).trans ht'.below
          go_wp2_with fail
          go_roundg (pn - (k + 1))
          case rel => exact ⟨k + 1, v', gs', by omega, rfl, by go_num, hga', by rw [HT.out, HTM.out, ← List.append_assoc]; exact hgi', hb1⟩
          case measure => have := HGK.out; omega
        · obtain rfl : k = pn := by omega
          have hfull : pre i ++ (li.take k).map PT.tm = pre (i + 1) := by rw [HPRE.out, ← HLI.out, List.take_length]
          rw [hfull] at hgi
          clear hfull hidx
          go_wp2_with fail
          go_roundg (2 - (i + 1))
          case rel => exact ⟨i + 1, v, gs, by omega, rfl, by go_num, hga, hgi, hbl⟩
          case measure => have := HG.out; omega
    · obtain rfl : i = 2 := by omega
      rw [HP2.out] at hgi
      have hgl : gs.length ≤ 100000 := by have h1 := hgi.len; have h2 := HLN.out; rw [List.length_map] at h1; omega
      have HP := Lib.hid (poly_any w.heap.size g mb v (ps.map PT.tm ++ qs.map PT.tm) gs wr hga hgi hgl (by rw [← HP2.out]; exact HPN.out 2))
      clear hgi hga
      go_wp2_with fail
      refine HP.out.mono ?_
      rintro e w1 hr
      obtain ⟨A1, c1, rs, rfl, hgd, hb2⟩ := HFIN.out _ _ _ hr
      go_wp2_with fail
      go_ret
      exact ⟨A1, c1, rs, rfl, { hgd with own := hgd.own.mono hbl.size, len := Nat.le_trans hgd.len HLN.out, cf := fun m => (hgd.cf m).trans (HCF.out m) }, hbl.trans (hb2.mono hbl.size)⟩
end Go.Proofs.YtpbapoanjkekmaaGreat

/- Plain laws for the loops of sparse.Mul. -/
namespace Go.Proofs.YtpbapoanjkekmaaGreat

def mulRow (s : Tm) (q : List Tm) : List Tm := q.map fun t => (s.1 * t.1, addM s.2 t.2)
theorem mulL_snoc (p q : List Tm) (s : Tm) : mulL (p ++ [s]) q = mulL p q ++ mulRow s q := by simp [mulL, mulRow]
theorem mulL_take {ps : List PT} {q : List Tm} {i : Nat} {p : PT} (hi : ps[i]? = some p) : mulL ((ps.take (i + 1)).map PT.tm) q = mulL ((ps.take i).map PT.tm) q ++ mulRow p.tm q := by rw [take_snoc_tm hi, mulL_snoc]
theorem mulRow_take {qs : List PT} {s : Tm} {k : Nat} {t : PT} (hk : qs[k]? = some t) : mulRow s ((qs.take (k + 1)).map PT.tm) = mulRow s ((qs.take k).map PT.tm) ++ [(s.1 * t.tm.1, addM s.2 t.tm.2)] := by rw [take_snoc_tm hk]; simp [mulRow]
theorem nrm_mulRow (s : Tm) (q : List Tm) : nrm (mulRow s q) = s.1.natAbs * nrm q := nrm_row s.1 s.2 q
theorem len_mulRow (s : Tm) (q : List Tm) : (mulRow s q).length = q.length := by simp [mulRow]
theorem part_nrm {ps qs : List PT} {i k : Nat} {p : PT} (hi : ps[i]? = some p) : nrm (mulL ((ps.take i).map PT.tm) (qs.map PT.tm) ++ mulRow p.tm ((qs.take k).map PT.tm)) ≤ nrm (ps.map PT.tm) * nrm (qs.map PT.tm) := by
  have h1 := nrm_take_tm ps (i + 1)
  have h2 := nrm_take_tm qs k
  rw [take_snoc_tm hi, nrm_append] at h1
  simp only [nrm] at h1
  rw [nrm_append, nrm_mulL, nrm_mulRow]
  calc _ ≤ nrm ((ps.take i).map PT.tm) * nrm (qs.map PT.tm) + p.tm.1.natAbs * nrm (qs.map PT.tm) := Nat.add_le_add_left (Nat.mul_le_mul_left _ h2) _
    _ = (nrm ((ps.take i).map PT.tm) + p.tm.1.natAbs) * nrm (qs.map PT.tm) := by rw [Nat.add_mul]
    _ ≤ _ := Nat.mul_le_mul_right _ (by omega)
theorem part_len {ps qs : List PT} {i k : Nat} {p : PT} (hi : ps[i]? = some p) : (mulL ((ps.take i).map PT.tm) (qs.map PT.tm) ++ mulRow p.tm ((qs.take k).map PT.tm)).length ≤ ps.length * qs.length := by
  have hl : i < ps.length := (List.getElem?_eq_some_iff.1 hi).1
  rw [List.length_append, len_mulL, len_mulRow]
  simp only [List.length_map, List.length_take]
  have e : min i ps.length = i := by omega
  rw [e]
  calc _ ≤ i * qs.length + qs.length := Nat.add_le_add_left (by omega) _
    _ = (i + 1) * qs.length := by rw [Nat.add_mul, Nat.one_mul]
    _ ≤ _ := Nat.mul_le_mul_right _ hl
/-- the first j exponents added -/
def mixM (s0 s1 s2 s3 t0 t1 t2 t3 : Int) : Nat → Array Value
  | 0 => #[.int .i64 s0, .int .i64 s1, .int .i64 s2, .int .i64 s3]
  | 1 => #[.int .i64 (s0 + t0), .int .i64 s1, .int .i64 s2, .int .i64 s3]
  | 2 => #[.int .i64 (s0 + t0), .int .i64 (s1 + t1), .int .i64 s2, .int .i64 s3]
  | 3 => #[.int .i64 (s0 + t0), .int .i64 (s1 + t1), .int .i64 (s2 + t2), .int .i64 s3]
  | _ => #[.int .i64 (s0 + t0), .int .i64 (s1 + t1), .int .i64 (s2 + t2), .int .i64 (s3 + t3)]
theorem MB.add {E E' : Int} {a b : Mo} (h : MB E a) (k : MB E' b) : MB (E + E') (addM a b) := by
  unfold MB addM at *
  simp only
  omega
theorem mem_mulL {p q : List Tm} {t : Tm} (h : t ∈ mulL p q) : ∃ a ∈ p, ∃ b ∈ q, t = (a.1 * b.1, addM a.2 b.2) := by
  unfold mulL at h
  obtain ⟨a, ha, h⟩ := List.mem_flatMap.1 h
  obtain ⟨b, hb, rfl⟩ := List.mem_map.1 h
  exact ⟨a, ha, b, hb, rfl⟩
end Go.Proofs.YtpbapoanjkekmaaGreat
