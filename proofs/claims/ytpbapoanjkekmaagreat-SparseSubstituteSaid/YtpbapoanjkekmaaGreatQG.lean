/- Contract of sparse.Substitute: at levels 1 to 4, and outside. -/
import Derived.IntWalk
import Derived.RegionTactic
import Derived.Test.YtpbapoanjkekmaaGreatQB
import Derived.Test.YtpbapoanjkekmaaGreatQE
import Derived.Test.YtpbapoanjkekmaaGreatQF
namespace Go.Proofs.YtpbapoanjkekmaaGreat
open Go.RowKit
attribute [local go_sem ↓] Go.wp_at_zero Go.wp_at_succ

theorem pw_eq' (k : Nat) : pw k = 4294967296 ^ k := rfl
theorem apart_new {W W' : World} {base b0 g mb : Nat} {v v1 : Value} {ps gs : List PT} (h : POwn W' base v1 ps) (hb : W.heap.size ≤ base) (hG : GAt W b0 g mb v gs) : ApartP v1 v := fun k hk hv => by
  have h1 := own_ge h.row hk
  rcases hG.row.2 with ⟨rfl, _⟩ | ⟨g', cap, cur, rfl, _, hh, _⟩
  · simp [Value.ownBlock] at hv
  · have e : g' = k := by simpa [Value.ownBlock] using hv
    subst e
    have := (show Blk W g' 56 cur from hh).lt
    omega
/-- the walk's state: the gather, the sorted polynomial, the power so far -/
structure SS (w V : World) (b0 g mb b7 i : Nat) (v : Value) (gs : List PT) (ts : List Tm) (vp : Value) (P : List PT) (va : Value) (rp : List PT) : Prop where
  G : GAt V b0 g mb v gs
  I : GInv ts (gs.map PT.tm)
  P : POwn V w.heap.size vp P
  R : POwn V w.heap.size va rp
  ap : ApartP vp v
  ar : ApartP va v
  b7 : Blk V b7 3 #[.int .i64 (i : Int)]
  bel : Below w.heap.size w V
section
variable {w V V' : World} {b0 g mb b7 i : Nat} {v v' : Value} {gs gs' rp rp' P : List PT} {ts ts' : List Tm} {vp va va' : Value}
theorem SS.old (h : SS w V b0 g mb b7 i v gs ts vp P va rp) (hb : Below V.heap.size V V') : SS w V' b0 g mb b7 i v gs ts vp P va rp :=
  ⟨h.G.old hb, h.I, h.P.old hb, h.R.old hb, h.ap, h.ar, h.b7.old hb, h.bel.trans (hb.mono h.bel.size)⟩
theorem SS.rep (h : SS w V b0 g mb b7 i v gs ts vp P va rp) (hb : Below V.heap.size V V') (hr : POwn V' V.heap.size va' rp') : SS w V' b0 g mb b7 i v gs ts vp P va' rp' :=
  ⟨h.G.old hb, h.I, h.P.old hb, hr.mono h.bel.size, h.ap, apart_new hr (Nat.le_refl _) h.G, h.b7.old hb, h.bel.trans (hb.mono h.bel.size)⟩
theorem SS.gadd (h : SS w V b0 g mb b7 i v gs ts vp P va rp) (hb0 : w.heap.size ≤ b0) (hga : GAt V' b0 g mb v' gs') (hgi : GInv ts' (gs'.map PT.tm)) (ht : GTurn b0 V V') (hf : FarT g v v' V V') : SS w V' b0 g mb b7 i v' gs' ts' vp P va rp :=
  ⟨hga, hgi, (KT.gaddP (Bs := 0) h.G ht hf h.ap).1 h.P, (KT.gaddP (Bs := 0) h.G ht hf h.ar).1 h.R, h.ap.gadd h.G h.P hf, h.ar.gadd h.G h.R hf, ht.far _ _ _ h.b7 (by decide) (by decide), h.bel.trans (ht.below.mono hb0)⟩
end
set_option maxHeartbeats 1000000 in
set_option maxRecDepth 100000 in
/-- a level outside -/
theorem Subst_out (A Aq : Option Addr) (c cq B N : Nat) (E : Int) (M : Nat) (ps : List PT) (nq : Nat) (l : Int) (hl : ¬ (1 ≤ l ∧ l ≤ 4)) (w : World) (hB : B ≤ w.heap.size) (h : PIn w B A ps N E M) (hN : N ≤ 50000) (hM : M < Big) :
    Calls Tryz.prog 25 #[.slice A ps.length c, .int .i64 l, .slice Aq nq cq] w (PRes (cf (ps.map PT.tm)) N E M w) := by
  have HN := Lib.hid (Normal_poly A c B N E M ps w hB h hN hM)
  have HL := Lib.hid (fun (W : World) => show Calls Tryz.prog 47 #[.int .i64 l] W (fun e w' => e = .returned (.bool false) ∧ W = w') by
    have := lvl_any l W
    rw [show (decide (1 ≤ l) && decide (l ≤ 4)) = false by
      rcases (by omega : ¬ (1 ≤ l) ∨ ¬ (l ≤ 4)) with h | h <;> simp [h]] at this
    exact this)
  clear h
  generalize cf (ps.map PT.tm) = F at *
  go_enter Tryz.func25, Tryz.ntmps25
  go_wp2_with fail
  refine HN.out.mono ?_
  rintro e w1 ⟨A1, c1, p1, rfl, hg1, hb1⟩
  have HG1 := Lib.hid (And.intro hg1 hb1)
  clear hg1 hb1
  go_wp2_with fail
  refine (HL.out _).mono ?_
  rintro e w2 ⟨rfl, rfl⟩
  go_wp2_with fail
  go_ret
  exact ⟨A1, c1, p1, rfl, HG1.out.1, HG1.out.2⟩

def RepF (Q : List Tm) (e : Nat) (rp : List PT) : Prop := Canon (rp.map PT.tm) ∧ (∀ m, cf (rp.map PT.tm) m = cf (powL Q e) m) ∧ rp.length ≤ 5 ^ e ∧ (∀ p ∈ rp, MB ((e : Int) * 4) p.m) ∧ nrm (rp.map PT.tm) ≤ pw 4 ^ e
theorem RepF.of {W : World} {b : Nat} {v : Value} {Q : List Tm} {e : Nat} {rp : List PT} (h : PGood W b v rp (cf (powL Q e)) (5 ^ e) ((e : Int) * 4) (pw 4 ^ e)) : RepF Q e rp := ⟨h.can, h.cf, h.len, h.mb, h.nm⟩
theorem RepF.good {W : World} {b : Nat} {v : Value} {Q : List Tm} {e : Nat} {rp : List PT} (h : RepF Q e rp) (ho : POwn W b v rp) : PGood W b v rp (cf (powL Q e)) (5 ^ e) ((e : Int) * 4) (pw 4 ^ e) := ⟨ho, h.1, h.2.1, h.2.2.1, h.2.2.2.1, h.2.2.2.2⟩
theorem p4pow {e : Nat} (h : e ≤ 4) : pw 4 ^ e ≤ pw 16 ∧ 5 ^ e ≤ 625 := by
  refine ⟨?_, Nat.le_trans (Nat.pow_le_pow_right (by omega) h) (by decide)⟩
  rw [pw_eq', ← Nat.pow_mul]
  exact Nat.pow_le_pow_right (by decide) (by omega)
theorem Pow_small (d : Nat) (hd : d ≤ 4) (A : Option Addr) (c B : Nat) (qs : List PT) (W : World) (hB : B ≤ W.heap.size) (h : PIn W B A qs 5 4 (pw 4)) : Calls Tryz.prog 16 #[.slice A qs.length c, .int .i64 (d : Int)] W (PRes (cf (powL (vF (qs.map PT.tm)) d)) (5 ^ d) ((d : Int) * 4) (pw 4 ^ d) W) := by
  have hM : ∀ n, n ≤ 4 → pw 4 ^ n < pw 47 := fun n hn => Nat.lt_of_le_of_lt (p4pow hn).1 (pw_lt (by decide))
  have hN : ∀ n, n ≤ 4 → 5 ^ n ≤ 50000 := fun n hn => Nat.le_trans (p4pow hn).2 (by omega)
  rcases (by omega : d = 0 ∨ d = 1 ∨ d = 2 ∨ d = 3 ∨ d = 4) with rfl | rfl | rfl | rfl | rfl
  · exact Pow_n0 A c B 5 4 (pw 4) qs W hB h (by omega) (pw_lt (by decide))
  · exact Pow_n1 A c B 5 4 (pw 4) qs W hB h (by omega) (pw_pos _) (hN 1 (by omega)) (by omega) (by omega) (hM 1 (by omega))
  · exact Pow_n2 A c B 5 4 (pw 4) qs W hB h (by omega) (pw_pos _) (hN 2 (by omega)) (by omega) (by omega) (hM 2 (by omega))
  · exact Pow_n3 A c B 5 4 (pw 4) qs W hB h (by omega) (pw_pos _) (hN 3 (by omega)) (by omega) (by omega) (hM 3 (by omega))
  · exact Pow_n4 A c B 5 4 (pw 4) qs W hB h (by omega) (pw_pos _) (hN 4 (by omega)) (by omega) (by omega) (hM 4 (by omega))
theorem nrm_perm {p q : List Tm} (h : p.Perm q) : nrm p = nrm q := by
  induction h with
  | nil => rfl
  | cons x _ ih => simp only [nrm, ih]
  | swap x y l => simp only [nrm]; omega
  | trans _ _ h1 h2 => exact h1.trans h2
theorem nrm_drop (ts : List Tm) (k : Nat) : nrm (ts.drop k) ≤ nrm ts := by
  have h := nrm_append (ts.take k) (ts.drop k)
  rw [List.take_append_drop] at h
  omega
/-- the terms that one power takes, without the variable -/
def grp (i s f : Nat) (P : List PT) : List PT := ((P.take f).drop s).map (zP i)
theorem grp_tm (i s f : Nat) (P : List PT) : (grp i s f P).map PT.tm = (((P.take f).drop s).map PT.tm).map (zT i) := by
  unfold grp
  rw [List.map_map, List.map_map]
  rfl
theorem grp_nil (i s : Nat) (P : List PT) : grp i s s P = [] := by
  unfold grp
  rw [List.drop_eq_nil_of_le (by rw [List.length_take]; exact Nat.min_le_left _ _)]
  rfl
theorem grp_snoc {i s f : Nat} {P : List PT} {p : PT} (hs : s ≤ f) (hp : P[f]? = some p) : grp i s (f + 1) P = grp i s f P ++ [zP i p] := by
  unfold grp
  have hf : f < P.length := (List.getElem?_eq_some_iff.1 hp).1
  rw [List.take_succ_eq_append_getElem hf, List.drop_append_of_le_length (by rw [List.length_take]; omega), List.map_append, (List.getElem?_eq_some_iff.1 hp).2]
  rfl
theorem take_grp {s f : Nat} {P : List PT} (hs : s ≤ f) : P.take f = P.take s ++ (P.take f).drop s := by
  conv => lhs; rw [← List.take_append_drop s (P.take f)]
  rw [List.take_take, Nat.min_eq_left hs]
theorem grp_len {i s f : Nat} {P : List PT} (hf : f ≤ P.length) : (grp i s f P).length = f - s := by
  unfold grp
  rw [List.length_map, List.length_drop, List.length_take, Nat.min_eq_left hf]
theorem zP_mem {i s f : Nat} {P : List PT} {q : PT} (h : q ∈ grp i s f P) : ∃ p ∈ P, q = zP i p := by
  obtain ⟨p, hp, rfl⟩ := List.mem_map.1 h
  exact ⟨p, List.mem_of_mem_take (List.mem_of_mem_drop hp), rfl⟩
theorem MB_zP {i : Nat} (hi : i < 4) {E : Int} (hE : 0 ≤ E) {p : PT} (h : MB E p.m) : MB E (zP i p).m := MB_of fun k hk => by
  show gt (zAt p.m i) k ≤ E
  rw [gt_zAt _ hi hk]
  split
  · exact hE
  · exact h.each k hk
/-- what the gather has received so far -/
structure TsF (i : Nat) (Q : List Tm) (P : List PT) (s : Nat) (ts : List Tm) : Prop where
  cf : ∀ m, Go.Proofs.YtpbapoanjkekmaaGreat.cf ts m = subC i Q ((P.take s).map PT.tm) m
  len : ts.length ≤ s * 3750
  nm : nrm ts ≤ s * pw 20
  mb : ∀ t ∈ ts, MB 20 t.2
theorem tsF_step {i : Nat} (hi : i < 4) {Q : List Tm} {P : List PT} {s f e : Nat} {ts : List Tm} {r rp : List PT} {W : World} {b : Nat} {v : Value} (h : TsF i Q P s ts) (hsf : s < f) (hv : ∀ p ∈ P, vld p.m = true) (he : ∀ p ∈ (P.take f).drop s, gt p.m i = (e : Int)) (hR : ∀ m, cf (rp.map PT.tm) m = cf (powL Q e) m)
    (hr : PGood W b v r (mulC ((grp i s f P).map PT.tm) (rp.map PT.tm)) (6 * 625) (4 + 16) (pw 4 * pw 16)) : TsF i Q P f (ts ++ r.map PT.tm) where
  cf m := by
    rw [cf_append, h.cf, hr.cf, grp_tm, subC_group hi (fun t ht => by obtain ⟨p, hp, rfl⟩ := List.mem_map.1 ht; exact hv p (List.mem_of_mem_take (List.mem_of_mem_drop hp))) (fun t ht => by obtain ⟨p, hp, rfl⟩ := List.mem_map.1 ht; exact he p hp) hR, ← subC_append, ← List.map_append, ← take_grp (Nat.le_of_lt hsf)]
  len := by
    have := h.len; have := hr.len
    rw [List.length_append, List.length_map]
    have : (s + 1) * 3750 ≤ f * 3750 := Nat.mul_le_mul_right _ hsf
    omega
  nm := by
    have h1 := h.nm; have h2 := hr.nm
    rw [pw_mul] at h2
    rw [nrm_append]
    have h3 : (s + 1) * pw 20 ≤ f * pw 20 := Nat.mul_le_mul_right _ hsf
    rw [Nat.succ_mul] at h3
    exact Nat.le_trans (Nat.add_le_add h1 h2) h3
  mb t ht := by
    rcases List.mem_append.1 ht with h1 | h1
    · exact h.mb t h1
    · obtain ⟨p, hp, rfl⟩ := List.mem_map.1 h1
      exact hr.mb p hp
theorem Cn.zP {p : PT} (h : Cn p) (i : Nat) : Cn (Go.Proofs.YtpbapoanjkekmaaGreat.zP i p) := by
  obtain ⟨z, hz⟩ := h
  refine ⟨z, ?_⟩
  unfold Go.Proofs.YtpbapoanjkekmaaGreat.zP
  conv => lhs; rw [hz]
  rfl
theorem nrm_zT (i : Nat) (l : List Tm) : nrm (l.map (zT i)) = nrm l := by
  induction l with
  | nil => rfl
  | cons t l ih =>
    simp only [List.map_cons, nrm, ih]
    rfl
/-- the terms of one group as an argument -/
theorem grp_pin {i s f : Nat} (hi : i < 4) {P : List PT} {V : World} {base c n : Nat} {A : Option Addr} (h : POwn V base (.slice A n c) (grp i s f P)) (hP : ∀ p ∈ P, vld p.m = true ∧ MB 4 p.m ∧ p.ds.length ≤ 600) (hl : P.length ≤ 6) (hn : nrm (P.map PT.tm) ≤ pw 4) : PIn V V.heap.size A (grp i s f P) 6 4 (pw 4) where
  pin := h.polyIn
  dl z hz := by obtain ⟨p, hp, rfl⟩ := zP_mem hz; exact Nat.le_trans (hP p hp).2.2 (by omega)
  wf z hz := by obtain ⟨p, hp, rfl⟩ := zP_mem hz; exact (MB_zP hi (by omega) (hP p hp).2.1).wf (vld_zAt hi (hP p hp).1) (by omega)
  mb z hz _ := by obtain ⟨p, hp, rfl⟩ := zP_mem hz; exact MB_zP hi (by omega) (hP p hp).2.1
  len := by
    unfold grp
    rw [List.length_map, List.length_drop, List.length_take]
    omega
  nm := by
    rw [grp_tm, nrm_zT, List.map_drop, List.map_take]
    exact Nat.le_trans (nrm_drop _ _) (Nat.le_trans (nrm_take _ _) hn)
theorem Reads.sixP (X : World) (l : List Value) (h : l.length = 6) (t : TypeId) : Reads (X.alloc (.cells l.toArray t)) (X.heap.size + 1) 6 (some ⟨X.heap.size, 0, none⟩) 1 l := Reads.six_new X l h t
set_option maxHeartbeats 8000000 in
set_option maxRecDepth 100000 in
theorem Subst_in (A Aq : Option Addr) (c cq B : Nat) (ps qs : List PT) (i : Nat) (hi : i < 4) (w : World) (hB : B ≤ w.heap.size) (h : PIn w B A ps 6 4 (pw 4)) (hq : PIn w B Aq qs 5 4 (pw 4)) :
    Calls Tryz.prog 25 #[.slice A ps.length c, .int .i64 ((i : Int) + 1), .slice Aq qs.length cq] w (PRes (subC i (vF (qs.map PT.tm)) (ps.map PT.tm)) 22500 20 (pw 21) w) := by
  have g4 : pw 4 < Big := pw_lt (by decide)
  have HN := Lib.hid (Normal_poly A c B 6 4 (pw 4) ps w hB h (by omega) g4)
  have HL := Lib.hid (fun (W : World) => show Calls Tryz.prog 47 #[.int .i64 ((i : Int) + 1)] W (fun e w' => e = .returned (.bool true) ∧ W = w') by
    have := lvl_any ((i : Int) + 1) W
    rw [decide_eq_true (show 1 ≤ (i : Int) + 1 by omega), decide_eq_true (show (i : Int) + 1 ≤ 4 by omega)] at this
    exact this)
  have ho := fun (W : World) => IOf_any 1 (by omega) (by omega) W
  unfold IntRes at ho
  have hone : ival (decide ((1 : Int) < 0)) (dig (Int.natAbs 1)) = 1 := ival_dig 1
  have hcn := fun (W : World) (A3 : Option Addr) (c3 : Nat) (hb : NatB W A3 (dig (Int.natAbs 1))) (hc : (dig (Int.natAbs 1)).length ≤ c3) => Const_any (decide ((1 : Int) < 0)) A3 c3 W.heap.size (dig (Int.natAbs 1)) W (Nat.le_refl _) (natB_nin hb hc) (Nat.le_trans (dig_len_pw (k := 1) (show Int.natAbs 1 < pw 1 by decide)) (by omega))
  rw [hone] at hcn
  generalize hd : dig (Int.natAbs 1) = d1 at *
  generalize hn1 : decide ((1 : Int) < 0) = n1 at *
  have HO := Lib.hid ho; have HCN := Lib.hid hcn
  have HIQ := Lib.hid (fun (V : World) (hV : Below w.heap.size w V) => hq.below (hV.mono hB))
  clear ho hcn hd hn1 hone h hq
  have e1 : (i : Int) + 1 - 1 = (i : Int) := by omega
  have e2 : IntKind.i64.wrap ((i : Int) + 1 - 1) = (i : Int) := by rw [e1]; exact IntWalk.i64_in _ (by omega)
  go_enter Tryz.func25, Tryz.ntmps25
  go_wp2_with fail
  refine HN.out.mono ?_
  rintro e w1 ⟨A1, c1, p1, rfl, hg1, hb1⟩
  have HG1 := Lib.hid hg1; have HB1 := Lib.hid hb1
  clear hg1 hb1 HN
  go_wp2_with fail
  refine (HL.out _).mono ?_
  rintro e w2 ⟨rfl, rfl⟩
  clear HL
  have hx := (Below.refl w1.heap.size w1).alloc (Nat.le_refl _) (.cells #[.int .i64 (i : Int)] 3)
  have hk7 := Blk.new w1 3 #[.int .i64 (i : Int)]
  have HS := Lib.hid (SortS_any i w1.heap.size w.heap.size A1 c1 p1 (w1.alloc (.cells #[.int .i64 (i : Int)] 3)) hi (HG1.out.own.old hx) (Nat.le_trans HB1.out.size hx.size) hk7 (by have := HG1.out.len; omega))
  have HBX := Lib.hid (HB1.out.trans (hx.mono HB1.out.size))
  unfold SortRes at HS
  clear hx hk7
  go_wp2_with fail
  refine HS.out.mono ?_
  rintro e w3 ⟨rfl, P, hpm, hst, hpo, hb7, hb3⟩
  have HPM := Lib.hid hpm; have HST := Lib.hid hst; have HPO := Lib.hid hpo; have HB7 := Lib.hid hb7
  have HBL3 := Lib.hid (HBX.out.trans hb3)
  have hlen := hpm.length_eq
  rw [← hlen]
  clear hpm hst hpo hb7 hb3 HS HBX hlen e1 e2
  go_upto_region 7 with (go_at_call 35; refine (newG_any _).mono ?_; rintro e w4 ⟨g, mb, rfl, hg0, hb4⟩)
  have HG0 := Lib.hid hg0; have HB4 := Lib.hid hb4
  clear hg0 hb4
  go_upto_region 8 with (first | (go_at_call 19; refine (HO.out _).mono ?_; rintro e w5 ⟨A5, c5, rfl, h1, h2, hb5⟩) | (go_at_call 18; refine (HCN.out _ _ _ h2 h1).mono ?_; rintro e w6 ⟨A6, c6, r6, rfl, hg6, hb6⟩))
  have HIN := Lib.hid HG1.out.len
  have hPl : P.length ≤ 6 := by rw [HPM.out.length_eq]; exact HG1.out.len
  have HPV := Lib.hid (fun (p : PT) (hp : p ∈ P) => (⟨HG1.out.vl (HPM.out.mem_iff.1 hp), HG1.out.mb p (HPM.out.mem_iff.1 hp), HG1.out.dlen (k := 600) (Nat.lt_of_le_of_lt (Nat.le_refl _) g4) (HPM.out.mem_iff.1 hp)⟩ : vld p.m = true ∧ MB 4 p.m ∧ p.ds.length ≤ 600))
  have HPN := Lib.hid (show nrm (P.map PT.tm) ≤ pw 4 by rw [nrm_perm (HPM.out.map PT.tm)]; exact HG1.out.nm)
  have HPC := Lib.hid (fun m => show subC i (vF (qs.map PT.tm)) (P.map PT.tm) m = subC i (vF (qs.map PT.tm)) (ps.map PT.tm) m by
    rw [subC_perm i _ (HPM.out.map PT.tm)]
    exact subC_ext i _ HG1.out.cf m)
  have HQV := Lib.hid (vF_vl (qs.map PT.tm))
  have hb46 := hb5.trans (hb6.mono hb5.size)
  have hb36 := HB4.out.trans (hb46.mono HB4.out.size)
  have HSS := Lib.hid (show SS w w6 w3.heap.size g mb w1.heap.size i (.slice none 0 0) [] [] (.slice A1 P.length c1) P (.slice A6 r6.length c6) r6 from
    ⟨HG0.out.old hb46, GInv.nil, HPO.out.old hb36, hg6.own.mono (Nat.le_trans HBL3.out.size (Nat.le_trans HB4.out.size hb5.size)), fun k _ => by simp [Value.ownBlock], fun k _ => by simp [Value.ownBlock], HB7.out.old hb36, HBL3.out.trans (hb36.mono HBL3.out.size)⟩)
  have HRF := Lib.hid (show RepF (vF (qs.map PT.tm)) 0 r6 from ⟨hg6.can, hg6.cf, hg6.len, fun p hp => by have := hg6.mb p hp; exact this.mono (by decide), hg6.nm⟩)
  have hb03 : w.heap.size ≤ w3.heap.size := HBL3.out.size
  have HPOW := Lib.hid (fun (d : Nat) (hd : d ≤ 4) (V : World) (hV : Below w.heap.size w V) => Pow_small d hd Aq cq B qs V (Nat.le_trans hB hV.size) (HIQ.out V hV))
  have HMUL := Lib.hid (SMul_pow (vF (qs.map PT.tm)) (vF_vl _) 5 (pw 4) 4 4 (by omega) (pw_pos _) (by omega) (by omega) (by omega) (by omega) (Nat.lt_of_le_of_lt (p4pow (Nat.le_refl 4)).1 (pw_lt (by decide))))
  unfold PRes at HPOW HMUL
  generalize subC i (vF (qs.map PT.tm)) (ps.map PT.tm) = FF at *
  generalize vF (qs.map PT.tm) = Q at *
  clear h1 h2 hb5 hb6 hg6 hb46 hb36 HG0 HB4 HPO HB7 HBL3 HIN HO HCN HG1 HB1 HPM HIQ
  obtain ⟨i0, hi0, hz0, hz1, hz2⟩ := info_parts Tryz.infoTerm
  generalize w1.heap.size = b7 at *
  generalize w3.heap.size = b0 at *
  have hix0 : (0 : Int) ≤ (i : Int) := by omega
  have hix4 : (i : Int) < 4 := by omega
  generalize hpn : P.length = n at *
  have HPLN := Lib.hid hpn
  clear hpn
  go_wp2_with fail
  go_loopg [9, 10, 11, 12, 13, 14, 15, 17] n (fun gn x9 x10 x11 _ _ _ _ _ wr => ∃ (s r : Nat) (Ar : Option Addr) (cr : Nat) (rp gs : List PT) (v : Value) (ts : List Tm), s ≤ n ∧ gn = n - s ∧ x9 = .int .i64 (r : Int) ∧ x10 = .slice Ar rp.length cr ∧ x11 = .int .i64 (s : Int) ∧ r ≤ 4 ∧ (∀ p ∈ P.drop s, (r : Int) ≤ gt p.m i) ∧ RepF Q r rp ∧ TsF i Q P s ts ∧ SS w wr b0 g mb b7 i v gs ts (.slice A1 n c1) P (.slice Ar rp.length cr) rp)
  case atStart => exact ⟨0, 0, A6, c6, r6, [], .slice none 0 0, [], by omega, rfl, rfl, rfl, rfl, by omega, fun p hp => vld_all.1 (HPV.out p (List.mem_of_mem_drop hp)).1 i hi, HRF.out, ⟨fun m => rfl, Nat.zero_le _, Nat.zero_le _, fun t ht => by cases ht⟩, HSS.out⟩
  case round =>
    clear HSS HRF
    obtain ⟨s, r, Ar, cr, rp, gs, v, ts, hs, hgs, rfl, rfl, rfl, hr4, hrp, hrf, hts, hss⟩ := hrel
    have HG := Lib.hid hgs
    clear hgs
    by_cases hsn : s < n
    · obtain ⟨p, hp⟩ : ∃ p, P[s]? = some p := ⟨_, List.getElem?_eq_getElem (by have := HPLN.out; omega)⟩
      have hpm := List.mem_of_getElem? hp
      obtain ⟨hpv, hpb, _⟩ := HPV.out p hpm
      obtain ⟨e, he⟩ : ∃ e : Nat, gt p.m i = (e : Int) := ⟨(gt p.m i).toNat, (Int.toNat_of_nonneg (vld_all.1 hpv i hi)).symm⟩
      have hpd : p ∈ P.drop s := by
        rw [List.drop_eq_getElem_cons (by have := HPLN.out; omega)]
        rw [← (List.getElem?_eq_some_iff.1 hp).2]
        exact List.mem_cons_self
      have hre : (r : Int) ≤ (e : Int) := by rw [← he]; exact hrp p hpd
      have he4 : (e : Int) ≤ 4 := by rw [← he]; exact hpb.each i hi
      obtain ⟨d, hd⟩ : ∃ d : Nat, e = r + d := ⟨e - r, by omega⟩
      have hd4 : d ≤ 4 := by omega
      have hsr : ∀ q ∈ P.drop s, (e : Int) ≤ gt q.m i := by
        intro q hq
        obtain ⟨k, hk, rfl⟩ := List.mem_iff_getElem.1 hq
        rw [List.getElem_drop]
        rw [List.length_drop] at hk
        rcases Nat.eq_zero_or_pos k with h0 | h0
        · subst h0
          have e0 : P[s + 0]'(by omega) = p := (List.getElem?_eq_some_iff.1 hp).2
          rw [e0, he]
          exact Int.le_refl _
        · have := List.pairwise_iff_getElem.1 HST.out s (s + k) (by omega) (by omega) (by omega)
          rw [(List.getElem?_eq_some_iff.1 hp).2, he] at this
          exact this
      have hpin := hss.P.polyIn
      obtain ⟨b, o, rfl, hbb, x0, x1, x2, x3, x4, x5⟩ := hpin.at_ hp
      have HCE := Lib.hid (fun (V : World) (hV : POwn V w.heap.size (.slice (some ⟨b, o, none⟩) n c1) P) (k : Nat) (q : PT) (hk : P[k]? = some q) => show b < V.heap.size ∧ V.cell? ⟨b, o + k * 6, none⟩ = some (.bool q.ng) ∧ V.cell? ⟨b, o + k * 6 + 1, none⟩ = some (.slice q.A q.ds.length q.c) ∧ V.cell? ⟨b, o + k * 6 + 2, none⟩ = some (.int .i64 q.m.1) ∧ V.cell? ⟨b, o + k * 6 + 3, none⟩ = some (.int .i64 q.m.2.1) ∧ V.cell? ⟨b, o + k * 6 + 4, none⟩ = some (.int .i64 q.m.2.2.1) ∧ V.cell? ⟨b, o + k * 6 + 5, none⟩ = some (.int .i64 q.m.2.2.2) ∧ V.cell? ⟨b, o + k * 6 + 2 + i, none⟩ = some (.int .i64 (gt q.m i)) by
        obtain ⟨b', o', he, y0, y1, y2, y3, y4, y5, y6⟩ := (hV.polyIn).at_ hk
        cases he
        refine ⟨y0, y1, y2, y3, y4, y5, y6, ?_⟩
        rcases four hi with rfl | rfl | rfl | rfl
        · exact y3
        · exact y4
        · exact y5
        · exact y6)
      have c7 : wr.cell? ⟨b7, 0, none⟩ = some (.int .i64 (i : Int)) := hss.b7.cell 0
      have l7 := hss.b7.lt
      have ce : wr.cell? ⟨b, o + s * 6 + 2 + i, none⟩ = some (.int .i64 (e : Int)) := by rw [(HCE.out wr hss.P s p hp).2.2.2.2.2.2.2, he]
      have s1 : (s : Int) < (n : Int) := by omega
      have s0 : (0 : Int) ≤ (s : Int) := by omega
      have HSS := Lib.hid hss; have HRF := Lib.hid hrf; have HTS := Lib.hid hts
      have HSR := Lib.hid hsr; have HE := Lib.hid (And.intro he4 hd)
      have HPE := Lib.hid (And.intro hp he)
      clear hrp hss hrf hts hsr hpin hpm hpv hpb hpd hre x0 x1 x2 x3 x4 x5 hp he hd hbb
      go_wp2_with fail
      go_quiet (fail)
      have hss2 := HSS.out.old ((Drawn.drewN wr nq).below _)
      have HE1 := Lib.hid (show (e : Int) - (r : Int) = (d : Int) by have := HE.out.2; omega)
      clear c7 l7 ce s1 s0 HSS
      generalize wr.drewN nq = W2 at *
      have f1 := HE1.out
      have f2 : IntKind.i64.wrap ((e : Int) - (r : Int)) = (d : Int) := by rw [f1]; exact IntWalk.i64_in _ (by omega)
      go_upto_region 12 with (first
        | (go_at_call 16; refine (HPOW.out d hd4 _ hss2.bel).mono ?_; rintro e' w7 ⟨A7, c7, r7, rfl, hg7, hb7⟩)
        | (go_at_call 14; refine (HMUL.out r d (by have := HE.out; omega) w7 w7.heap.size (Nat.le_refl _) Ar A7 cr c7 rp r7 ((HRF.out.good (hss2.old hb7).R).pin (by omega) (Nat.lt_of_le_of_lt (p4pow hr4).1 (pw_lt (by decide)))) (hg7.pin (by omega) (Nat.lt_of_le_of_lt (p4pow hd4).1 (pw_lt (by decide)))) HRF.out.2.1 hg7.cf).mono ?_; rintro e' w8 ⟨A8, c8, r8, rfl, hg8, hb8⟩))
      have hss8 := (hss2.old hb7).rep hb8 hg8.own
      have HRF8 := Lib.hid (show RepF Q e r8 by rw [HE.out.2]; exact RepF.of hg8)
      have HS8 := Lib.hid hss8
      have HKN := Lib.hid (Nat.le_refl w8.heap.size)
      have HP8 := Lib.hid (fun (V : World) (hV : Below w8.heap.size w8 V) => hss8.P.old hV)
      have HK7 := Lib.hid (fun (V : World) (hV : Below w8.heap.size w8 V) => hss8.b7.old hV)
      clear hss2 hss8 hg7 hb7 hg8 hb8 HRF f1 f2 HPOW HMUL
      go_wp2_with fail
      go_loopg [13, 14, 15] (n - s) (fun gn x13 x14 _ wr => ∃ (f : Nat) (va : Value), s ≤ f ∧ f ≤ n ∧ gn = n - f ∧ x13 = .int .i64 (f : Int) ∧ x14 = va ∧ wr.ownsRow w8.heap.size 56 6 va (grp i s f P).length ((grp i s f P).flatMap PT.cells) ∧ (∀ q ∈ (P.take f).drop s, gt q.m i = (e : Int)) ∧ Below w8.heap.size w8 wr)
      case atStart => exact ⟨s, .slice none 0 0, by omega, by omega, rfl, rfl, rfl, by rw [grp_nil]; exact ⟨rfl, .inl ⟨rfl, rfl⟩⟩, fun q hq => (by rw [List.drop_eq_nil_of_le (by rw [List.length_take]; exact Nat.min_le_left _ _)] at hq; cases hq), Below.refl _ _⟩
      case round =>
        obtain ⟨f, va, hf1, hf2, hgf, rfl, rfl, hown, hfe, hbl⟩ := hrel
        have HGF := Lib.hid hgf
        clear hgf
        obtain ⟨Aw, cw, rfl⟩ := own_slice6 hown
        have c7 : wr.cell? ⟨b7, 0, none⟩ = some (.int .i64 (i : Int)) := (HK7.out wr hbl).cell 0
        have l7 := (HK7.out wr hbl).lt
        by_cases hfn : f < n
        · obtain ⟨q, hq⟩ : ∃ q, P[f]? = some q := ⟨_, List.getElem?_eq_getElem (by have := HPLN.out; omega)⟩
          have t1 : (f : Int) < (n : Int) := by omega
          have t0 : (0 : Int) ≤ (f : Int) := by omega
          obtain ⟨hbw, d0, d1', d2, d3, d4, d5, d6⟩ := HCE.out wr (HP8.out wr hbl) f q hq
          by_cases hqe : gt q.m i = (e : Int)
          · rw [hqe] at d6
            have HOW := Lib.hid hown
            have hgl : (grp i s f P).length = f - s := grp_len (by have := HPLN.out; omega)
            have HQI := Lib.hid (And.intro hq hqe)
            have HFE := Lib.hid (fun x (hx : x ∈ (P.take (f + 1)).drop s) => show gt x.m i = (e : Int) by
              have hfl : f < P.length := by have := HPLN.out; omega
              rw [List.take_succ_eq_append_getElem hfl, List.drop_append_of_le_length (by rw [List.length_take]; omega)] at hx
              rcases List.mem_append.1 hx with h | h
              · exact hfe x h
              · rw [List.mem_singleton.1 h, (List.getElem?_eq_some_iff.1 hq).2]
                exact hqe)
            clear hown hfe hqe hq
            go_wp2_with fail
            go_quiet (fail)
            have hbl2 := hbl.trans (((Drawn.drewN wr nq).below wr.heap.size).mono hbl.size)
            have how2 := own_old HOW.out ((Drawn.drewN wr nq).below wr.heap.size)
            have e0 : (wr.drewN nq).cell? ⟨b, o + f * 6, none⟩ = some (.bool q.ng) := d0
            have e1 : (wr.drewN nq).cell? ⟨b, o + f * 6 + 1, none⟩ = some (.slice q.A q.ds.length q.c) := d1'
            have e2 : (wr.drewN nq).cell? ⟨b, o + f * 6 + 2, none⟩ = some (.int .i64 q.m.1) := d2
            have e3 : (wr.drewN nq).cell? ⟨b, o + f * 6 + 3, none⟩ = some (.int .i64 q.m.2.1) := d3
            have e4 : (wr.drewN nq).cell? ⟨b, o + f * 6 + 4, none⟩ = some (.int .i64 q.m.2.2.1) := d4
            have e5 : (wr.drewN nq).cell? ⟨b, o + f * 6 + 5, none⟩ = some (.int .i64 q.m.2.2.2) := d5
            have e7 : (wr.drewN nq).cell? ⟨b7, 0, none⟩ = some (.int .i64 (i : Int)) := c7
            have hbw2 : b < (wr.drewN nq).heap.size := hbw
            have l72 : b7 < (wr.drewN nq).heap.size := l7
            clear d0 d1' d2 d3 d4 d5 d6 c7 hbw l7 HOW hbl
            generalize wr.drewN nq = W3 at *
            have kx := Blk.new W3 56 q.cells.toArray
            have hx3 := (Below.refl W3.heap.size W3).alloc (Nat.le_refl _) (.cells q.cells.toArray 56)
            simp only [PT.cells] at kx hx3
            have k2 : (W3.alloc (.cells #[.bool q.ng, .slice q.A q.ds.length q.c, .int .i64 q.m.1, .int .i64 q.m.2.1, .int .i64 q.m.2.2.1, .int .i64 q.m.2.2.2] 56)).cell? ⟨W3.heap.size, 2 + i, none⟩ = some (.int .i64 (gt q.m i)) := (kx.cell (2 + i)).trans (by simpa [PT.cells] using q.cell_at hi)
            have kf := kx.frozen (2 + i)
            have kl := kx.lt
            have k7 : (W3.alloc (.cells #[.bool q.ng, .slice q.A q.ds.length q.c, .int .i64 q.m.1, .int .i64 q.m.2.1, .int .i64 q.m.2.2.1, .int .i64 q.m.2.2.2] 56)).cell? ⟨b7, 0, none⟩ = some (.int .i64 (i : Int)) := (hx3.cell (p := ⟨b7, 0, none⟩) l72).trans e7
            have hkz : Blk ((W3.alloc (.cells #[.bool q.ng, .slice q.A q.ds.length q.c, .int .i64 q.m.1, .int .i64 q.m.2.1, .int .i64 q.m.2.2.1, .int .i64 q.m.2.2.2] 56)).setCell ⟨W3.heap.size, 2 + i, none⟩ (.int .i64 0)) W3.heap.size 56 (zP i q).cells.toArray := by
              rw [← zP_cells i hi q]
              exact kx.set_ (2 + i) _
            have hxz := hx3.setCell (p := ⟨W3.heap.size, 2 + i, none⟩) (Nat.le_refl _) (.int .i64 0)
            have HKZ := Lib.hid hkz; have HXZ := Lib.hid hxz
            have l73 := Nat.lt_of_lt_of_le l72 hx3.size
            go_upto_region 18 with (fail)
            clear e0 e1 e2 e3 e4 e5 e7 kx hx3 hbw2 l72 hkz hxz
            generalize hX : W3.alloc (.cells #[.bool q.ng, .slice q.A q.ds.length q.c, .int .i64 q.m.1, .int .i64 q.m.2.1, .int .i64 q.m.2.2.1, .int .i64 q.m.2.2.2] 56) = X at *
            clear hX
            generalize hgx : W3.heap.size = gx at *
            go_upto_region 19 with (fail)
            have hxz : Below W3.heap.size W3 (X.setCell ⟨gx, 2 + i, none⟩ (.int .i64 0)) := by rw [hgx]; exact HXZ.out
            have hkz := HKZ.out
            have HBL := Lib.hid (hbl2.trans (hxz.mono hbl2.size))
            have HOWY := Lib.hid (own_old how2 hxz)
            clear hxz how2 hbl2 k2 kf kl k7 l73 HKZ HXZ hgx
            generalize hY : X.setCell ⟨gx, 2 + i, none⟩ (.int .i64 0) = Y at *
            clear hY
            have HZC := Lib.hid (show (zP i q).cells = [.bool q.ng, .slice q.A q.ds.length q.c, .int .i64 (zAt q.m i).1, .int .i64 (zAt q.m i).2.1, .int .i64 (zAt q.m i).2.2.1, .int .i64 (zAt q.m i).2.2.2] from rfl)
            rw [HZC.out] at hkz
            have HONE := Lib.hid (show ∀ u ∈ ([.bool q.ng, .slice q.A q.ds.length q.c, .int .i64 (zAt q.m i).1, .int .i64 (zAt q.m i).2.1, .int .i64 (zAt q.m i).2.2.1, .int .i64 (zAt q.m i).2.2.2] : List Value), u.oneCell' = true by rw [← HZC.out]; exact cells_one1 (zP i q))
            generalize (zAt q.m i).1 = z0 at *
            generalize (zAt q.m i).2.1 = z1 at *
            generalize (zAt q.m i).2.2.1 = z2 at *
            generalize (zAt q.m i).2.2.2 = z3 at *
            have n0 : Y.cell? ⟨gx, 0, none⟩ = some (.bool q.ng) := hkz.cell 0
            have n1' : Y.cell? ⟨gx, 1, none⟩ = some (.slice q.A q.ds.length q.c) := hkz.cell 1
            have n2 : Y.cell? ⟨gx, 2, none⟩ = some (.int .i64 z0) := hkz.cell 2
            have n3 : Y.cell? ⟨gx, 3, none⟩ = some (.int .i64 z1) := hkz.cell 3
            have n4 : Y.cell? ⟨gx, 4, none⟩ = some (.int .i64 z2) := hkz.cell 4
            have n5 : Y.cell? ⟨gx, 5, none⟩ = some (.int .i64 z3) := hkz.cell 5
            have hxa := (Below.refl Y.heap.size Y).alloc (Nat.le_refl _) (.cells #[.bool q.ng, .slice q.A q.ds.length q.c, .int .i64 z0, .int .i64 z1, .int .i64 z2, .int .i64 z3] 56)
            have hro := own_old HOWY.out hxa
            have hrd := Reads.sixP Y [.bool q.ng, .slice q.A q.ds.length q.c, .int .i64 z0, .int .i64 z1, .int .i64 z2, .int .i64 z3] rfl 56
            have hsz := Nat.le_trans HBL.out.size hxa.size
            clear hkz
            go_wp2_with (first | (at_builtin; refine wpList_append_any _ rfl (.tmp 76) (.tmp 78) 23 rfl w8.heap.size 56 i0 _ 6 64 Tryz.underlying23 hi0 hz0 hz1 hz2 rfl (by decide) (.slice Aw (grp i s f P).length cw) (grp i s f P).length _ rfl hro (Y.heap.size + 1) (some ⟨Y.heap.size, 0, none⟩) 1 1 ([.bool q.ng, .slice q.A q.ds.length q.c, .int .i64 z0, .int .i64 z1, .int .i64 z2, .int .i64 z3] : List Value) rfl hrd HONE.out (by unfold maxLen; omega) (by omega) hsz ?_; intro v' w4 hown4 hg4 hat4))
            have hb4 : Below w8.heap.size w8 w4 := (HBL.out.trans (hxa.mono HBL.out.size)).grown hg4 hsz (fun q hq => own_ge hro hq)
            go_roundg (n - (f + 1))
            case rel => exact ⟨f + 1, v', by omega, by omega, rfl, by go_num, rfl, by rw [grp_snoc hf1 HQI.out.1, flat_snoc, List.length_append, HZC.out]; exact hown4, HFE.out, hb4⟩
            case measure => have := HGF.out; omega
          · have hsf : s < f := by
              rcases Nat.lt_or_ge s f with h | h
              · exact h
              · exfalso
                obtain rfl : f = s := by omega
                rw [HPE.out.1] at hq
                injection hq with hq
                subst hq
                exact hqe HPE.out.2
            have HOW := Lib.hid hown; have HFE := Lib.hid hfe
            have hne : ¬ (gt q.m i = (e : Int)) := hqe
            clear hown hfe hqe hq
            generalize gt q.m i = eq at *
            go_wp2_with fail
            go_quiet (fail)
            have hbl3 := hbl.trans (((Drawn.drewN wr nq).below wr.heap.size).mono hbl.size)
            have hown3 := own_old HOW.out ((Drawn.drewN wr nq).below wr.heap.size)
            clear d0 d1' d2 d3 d4 d5 d6 c7 hbw l7 HOW hbl
            generalize wr.drewN nq = W3 at *
            have he4' : e ≤ 4 := by omega
            have hl3 := HS8.out.old hbl3
            have hco : POwn W3 w8.heap.size (.slice Aw (grp i s f P).length cw) (grp i s f P) := ⟨hown3, fun z hz => (by obtain ⟨p', hp', rfl⟩ := zP_mem hz; exact hl3.P.dg p' hp'), fun z hz => (by obtain ⟨p', hp', rfl⟩ := zP_mem hz; exact (hl3.P.cn p' hp').zP i)⟩
            have hcp := grp_pin hi hco HPV.out (by rw [HPLN.out]; exact hPl) HPN.out
            have hrpn := ((HRF8.out.good hl3.R).pin (by omega) (Nat.lt_of_le_of_lt (p4pow he4').1 (pw_lt (by decide)))).bound (p4pow he4').2 (show (e : Int) * 4 ≤ 16 by omega) (p4pow he4').1
            have HMU := Lib.hid (SMul_any Aw A8 cw c8 W3.heap.size 6 625 4 16 (pw 4) (pw 16) (grp i s f P) r8 W3 (Nat.le_refl _) hcp hrpn (by omega) (by omega) (by omega) (by omega) (by omega) (pw_lt (by decide)) (pw_lt (by decide)) (by rw [pw_mul]; exact pw_lt (by decide)))
            unfold PRes at HMU
            have HL3 := Lib.hid hl3
            clear hl3 hco hcp hrpn hown3
            go_wp2_with (go_at_call 14; refine HMU.out.mono ?_; rintro e' w9 ⟨A9, c9, r9, rfl, hg9, hb9⟩)
            have HSS9 := Lib.hid (HL3.out.old hb9)
            have HP9 := Lib.hid (hg9.own.mono (Nat.le_trans HL3.out.bel.size (Nat.le_refl _)))
            have HAP9 := Lib.hid (apart_new hg9.own (Nat.le_refl _) HL3.out.G)
            have HTS2 := Lib.hid (tsF_step hi HTS.out hsf (fun p hp => (HPV.out p hp).1) HFE.out HRF8.out.2.1 hg9)
            have HZ9 := Lib.hid (fun (z : PT) (hz : z ∈ r9) => (⟨(hg9.mb z hz).wf (hg9.vl hz) (by omega), Nat.le_trans (hg9.dlen (k := 600) (by rw [pw_mul]; exact pw_lt (by decide)) hz) (by omega)⟩ : WfM z.m ∧ z.ds.length ≤ 1000))
            have HTK := Lib.hid (fun (k : Nat) => show (ts ++ (r9.take k).map PT.tm).length ≤ 100000 ∧ nrm (ts ++ (r9.take k).map PT.tm) < Big by
              have a1 := HTS.out.len; have a2 := hg9.len; have a3 := HTS.out.nm; have a4 := hg9.nm
              rw [pw_mul] at a4
              have a5 := nrm_take_tm r9 k
              have a6 : s * 3750 ≤ 6 * 3750 := Nat.mul_le_mul_right _ (by omega)
              have a7 : s * pw 20 ≤ 6 * pw 20 := Nat.mul_le_mul_right _ (by omega)
              have a8 : pw 21 = pw 20 * 4294967296 := Nat.pow_succ ..
              have a9 : pw 21 < Big := pw_lt (by decide)
              refine ⟨?_, ?_⟩
              · rw [List.length_append, List.length_map, List.length_take]
                have := Nat.min_le_right k r9.length
                omega
              · rw [nrm_append]
                generalize pw 20 = P20 at *
                have a4' : nrm (r9.map PT.tm) ≤ P20 := a4
                omega)
            have hrlb : r9.length ≤ 3750 := hg9.len
            clear hg9 hb9 HMU
            generalize hrl : r9.length = rl at *
            have HRL := Lib.hid hrl
            clear hrl
            go_loopg [17, 84] rl (fun gn _ ix wr => ∃ (k : Nat) (gs' : List PT) (v' : Value), k ≤ rl ∧ gn = rl - k ∧ ix = .int .i64 (k : Int) ∧ SS w wr b0 g mb b7 i v' gs' (ts ++ (r9.take k).map PT.tm) (.slice (some ⟨b, o, none⟩) n c1) P (.slice A8 r8.length c8) r8 ∧ POwn wr w.heap.size (.slice A9 rl c9) r9 ∧ ApartP (.slice A9 rl c9) v')
            case atStart => exact ⟨0, gs, v, by omega, rfl, rfl, by rw [List.take_zero, List.map_nil, List.append_nil]; exact HSS9.out, HP9.out, HAP9.out⟩
            case round =>
              clear HSS9 HP9 HAP9
              obtain ⟨k, gs', v', hk, hgk, rfl, hss, hp9, hap⟩ := hrel
              have HGK := Lib.hid hgk
              clear hgk
              by_cases hkl : k < rl
              · obtain ⟨z, hz⟩ : ∃ z, r9[k]? = some z := ⟨_, List.getElem?_eq_getElem (by have := HRL.out; omega)⟩
                have hzm := List.mem_of_getElem? hz
                obtain ⟨b9, o9, rfl, hb9, y0, y1, y2, y3, y4, y5⟩ := (hp9.polyIn).at_ hz
                have kk1 : (k : Int) < (rl : Int) := by omega
                have kk0 : (0 : Int) ≤ (k : Int) := by omega
                have hxa := (Below.refl wr.heap.size wr).alloc (Nat.le_refl _) (.cells z.cells.toArray 56)
                have hssY := hss.old hxa
                have hp9Y := hp9.old hxa
                have hbY : b0 ≤ (wr.alloc (.cells z.cells.toArray 56)).heap.size := Nat.le_trans hssY.G.lg (Nat.le_of_lt hssY.G.gb.lt)
                obtain ⟨hzw, hzd⟩ := HZ9.out z hzm
                have HGA := Lib.hid (show Calls Tryz.prog 36 #[.pointer (some ⟨g, 0, none⟩), .agg (moV z.m), .agg #[.bool z.ng, .slice z.A z.ds.length z.c]] (wr.alloc (.cells z.cells.toArray 56)) (AddRes b0 g mb v' (ts ++ (r9.take (k + 1)).map PT.tm) (wr.alloc (.cells z.cells.toArray 56))) by
                  have h1 := gadd_any b0 g mb v' (ts ++ (r9.take k).map PT.tm) gs' z.m z.ng z.A z.c z.ds (wr.alloc (.cells z.cells.toArray 56)) hssY.G hssY.I hbY hzw (hp9Y.nin hzm) hzd (HTK.out k).1 (HTK.out k).2
                  rw [show ts ++ (r9.take (k + 1)).map PT.tm = (ts ++ (r9.take k).map PT.tm) ++ [(ival z.ng z.ds, z.m)] by rw [take_snoc_tm hz, List.append_assoc]; rfl]
                  exact h1)
                have HSY := Lib.hid hssY; have HPY := Lib.hid hp9Y; have HAP := Lib.hid hap
                unfold AddRes moV at HGA
                simp only [PT.cells] at HGA
                clear hss hp9 hap hxa hssY hp9Y hbY hzw hzd hzm hz
                go_wp2_with (go_at_call 36; refine HGA.out.mono ?_; rintro e' w10 ⟨rfl, v2, gs2, hga, hgi, ht, hf, ho⟩; have HSN := Lib.hid (HSY.out.gadd hb03 hga hgi ht hf); have HPN2 := Lib.hid ((KT.gaddP (Bs := 0) HSY.out.G ht hf HAP.out).1 HPY.out); have HAN := Lib.hid (HAP.out.gadd HSY.out.G HPY.out hf); clear hga hgi ht hf ho)
                go_roundg (rl - (k + 1))
                case rel => exact ⟨k + 1, gs2, v2, by omega, rfl, by go_num, HSN.out, HPN2.out, HAN.out⟩
                case measure => have := HGK.out; omega
              · obtain rfl : k = rl := by omega
                have kk1 : ¬ (k : Int) < (k : Int) := by omega
                rw [List.take_of_length_le (by rw [HRL.out]; exact Nat.le_refl _)] at hss
                have HSN := Lib.hid hss
                clear hss hp9 hap
                go_wp2_with fail
                go_roundg (n - f)
                case rel => exact ⟨f, e, A8, c8, r8, gs', v', ts ++ r9.map PT.tm, by omega, rfl, rfl, rfl, rfl, he4', fun p hp => HSR.out p (by rw [show P.drop f = (P.drop s).drop (f - s) by rw [List.drop_drop]; congr 1; omega] at hp; exact List.mem_of_mem_drop hp), HRF8.out, HTS2.out, HSN.out⟩
                case measure => have := HG.out; omega
        · obtain rfl : f = n := by omega
          have hsf : s < f := hsn
          have HOW := Lib.hid hown; have HFE := Lib.hid hfe
          have t1 : ¬ (f : Int) < (f : Int) := by omega
          clear hown hfe
          go_wp2_with fail
          go_quiet (fail)
          have hbl3 := hbl.trans (((Drawn.drewN wr nq).below wr.heap.size).mono hbl.size)
          have hown3 := own_old HOW.out ((Drawn.drewN wr nq).below wr.heap.size)
          clear c7 l7 HOW hbl
          generalize wr.drewN nq = W3 at *
          have he4' : e ≤ 4 := by omega
          have hl3 := HS8.out.old hbl3
          have hco : POwn W3 w8.heap.size (.slice Aw (grp i s f P).length cw) (grp i s f P) := ⟨hown3, fun z hz => (by obtain ⟨p', hp', rfl⟩ := zP_mem hz; exact hl3.P.dg p' hp'), fun z hz => (by obtain ⟨p', hp', rfl⟩ := zP_mem hz; exact (hl3.P.cn p' hp').zP i)⟩
          have hcp := grp_pin hi hco HPV.out (by rw [HPLN.out]; exact hPl) HPN.out
          have hrpn := ((HRF8.out.good hl3.R).pin (by omega) (Nat.lt_of_le_of_lt (p4pow he4').1 (pw_lt (by decide)))).bound (p4pow he4').2 (show (e : Int) * 4 ≤ 16 by omega) (p4pow he4').1
          have HMU := Lib.hid (SMul_any Aw A8 cw c8 W3.heap.size 6 625 4 16 (pw 4) (pw 16) (grp i s f P) r8 W3 (Nat.le_refl _) hcp hrpn (by omega) (by omega) (by omega) (by omega) (by omega) (pw_lt (by decide)) (pw_lt (by decide)) (by rw [pw_mul]; exact pw_lt (by decide)))
          unfold PRes at HMU
          have HL3 := Lib.hid hl3
          clear hl3 hco hcp hrpn hown3
          go_wp2_with (go_at_call 14; refine HMU.out.mono ?_; rintro e' w9 ⟨A9, c9, r9, rfl, hg9, hb9⟩)
          have HSS9 := Lib.hid (HL3.out.old hb9)
          have HP9 := Lib.hid (hg9.own.mono (Nat.le_trans HL3.out.bel.size (Nat.le_refl _)))
          have HAP9 := Lib.hid (apart_new hg9.own (Nat.le_refl _) HL3.out.G)
          have HTS2 := Lib.hid (tsF_step hi HTS.out hsf (fun p hp => (HPV.out p hp).1) HFE.out HRF8.out.2.1 hg9)
          have HZ9 := Lib.hid (fun (z : PT) (hz : z ∈ r9) => (⟨(hg9.mb z hz).wf (hg9.vl hz) (by omega), Nat.le_trans (hg9.dlen (k := 600) (by rw [pw_mul]; exact pw_lt (by decide)) hz) (by omega)⟩ : WfM z.m ∧ z.ds.length ≤ 1000))
          have HTK := Lib.hid (fun (k : Nat) => show (ts ++ (r9.take k).map PT.tm).length ≤ 100000 ∧ nrm (ts ++ (r9.take k).map PT.tm) < Big by
            have a1 := HTS.out.len; have a2 := hg9.len; have a3 := HTS.out.nm; have a4 := hg9.nm
            rw [pw_mul] at a4
            have a5 := nrm_take_tm r9 k
            have a6 : s * 3750 ≤ 6 * 3750 := Nat.mul_le_mul_right _ (by omega)
            have a7 : s * pw 20 ≤ 6 * pw 20 := Nat.mul_le_mul_right _ (by omega)
            have a8 : pw 21 = pw 20 * 4294967296 := Nat.pow_succ ..
            have a9 : pw 21 < Big := pw_lt (by decide)
            refine ⟨?_, ?_⟩
            · rw [List.length_append, List.length_map, List.length_take]
              have := Nat.min_le_right k r9.length
              omega
            · rw [nrm_append]
              generalize pw 20 = P20 at *
              have a4' : nrm (r9.map PT.tm) ≤ P20 := a4
              omega)
          have hrlb : r9.length ≤ 3750 := hg9.len
          clear hg9 hb9 HMU
          generalize hrl : r9.length = rl at *
          have HRL := Lib.hid hrl
          clear hrl
          go_loopg [17, 84] rl (fun gn _ ix wr => ∃ (k : Nat) (gs' : List PT) (v' : Value), k ≤ rl ∧ gn = rl - k ∧ ix = .int .i64 (k : Int) ∧ SS w wr b0 g mb b7 i v' gs' (ts ++ (r9.take k).map PT.tm) (.slice (some ⟨b, o, none⟩) f c1) P (.slice A8 r8.length c8) r8 ∧ POwn wr w.heap.size (.slice A9 rl c9) r9 ∧ ApartP (.slice A9 rl c9) v')
          case atStart => exact ⟨0, gs, v, by omega, rfl, rfl, by rw [List.take_zero, List.map_nil, List.append_nil]; exact HSS9.out, HP9.out, HAP9.out⟩
          case round =>
            clear HSS9 HP9 HAP9
            obtain ⟨k, gs', v', hk, hgk, rfl, hss, hp9, hap⟩ := hrel
            have HGK := Lib.hid hgk
            clear hgk
            by_cases hkl : k < rl
            · obtain ⟨z, hz⟩ : ∃ z, r9[k]? = some z := ⟨_, List.getElem?_eq_getElem (by have := HRL.out; omega)⟩
              have hzm := List.mem_of_getElem? hz
              obtain ⟨b9, o9, rfl, hb9, y0, y1, y2, y3, y4, y5⟩ := (hp9.polyIn).at_ hz
              have kk1 : (k : Int) < (rl : Int) := by omega
              have kk0 : (0 : Int) ≤ (k : Int) := by omega
              have hxa := (Below.refl wr.heap.size wr).alloc (Nat.le_refl _) (.cells z.cells.toArray 56)
              have hssY := hss.old hxa
              have hp9Y := hp9.old hxa
              have hbY : b0 ≤ (wr.alloc (.cells z.cells.toArray 56)).heap.size := Nat.le_trans hssY.G.lg (Nat.le_of_lt hssY.G.gb.lt)
              obtain ⟨hzw, hzd⟩ := HZ9.out z hzm
              have HGA := Lib.hid (show Calls Tryz.prog 36 #[.pointer (some ⟨g, 0, none⟩), .agg (moV z.m), .agg #[.bool z.ng, .slice z.A z.ds.length z.c]] (wr.alloc (.cells z.cells.toArray 56)) (AddRes b0 g mb v' (ts ++ (r9.take (k + 1)).map PT.tm) (wr.alloc (.cells z.cells.toArray 56))) by
                have h1 := gadd_any b0 g mb v' (ts ++ (r9.take k).map PT.tm) gs' z.m z.ng z.A z.c z.ds (wr.alloc (.cells z.cells.toArray 56)) hssY.G hssY.I hbY hzw (hp9Y.nin hzm) hzd (HTK.out k).1 (HTK.out k).2
                rw [show ts ++ (r9.take (k + 1)).map PT.tm = (ts ++ (r9.take k).map PT.tm) ++ [(ival z.ng z.ds, z.m)] by rw [take_snoc_tm hz, List.append_assoc]; rfl]
                exact h1)
              have HSY := Lib.hid hssY; have HPY := Lib.hid hp9Y; have HAP := Lib.hid hap
              unfold AddRes moV at HGA
              simp only [PT.cells] at HGA
              clear hss hp9 hap hxa hssY hp9Y hbY hzw hzd hzm hz
              go_wp2_with (go_at_call 36; refine HGA.out.mono ?_; rintro e' w10 ⟨rfl, v2, gs2, hga, hgi, ht, hf, ho⟩; have HSN := Lib.hid (HSY.out.gadd hb03 hga hgi ht hf); have HPN2 := Lib.hid ((KT.gaddP (Bs := 0) HSY.out.G ht hf HAP.out).1 HPY.out); have HAN := Lib.hid (HAP.out.gadd HSY.out.G HPY.out hf); clear hga hgi ht hf ho)
              go_roundg (rl - (k + 1))
              case rel => exact ⟨k + 1, gs2, v2, by omega, rfl, by go_num, HSN.out, HPN2.out, HAN.out⟩
              case measure => have := HGK.out; omega
            · obtain rfl : k = rl := by omega
              have kk1 : ¬ (k : Int) < (k : Int) := by omega
              rw [List.take_of_length_le (by rw [HRL.out]; exact Nat.le_refl _)] at hss
              have HSN := Lib.hid hss
              clear hss hp9 hap
              go_wp2_with fail
              go_roundg (f - f)
              case rel => exact ⟨f, e, A8, c8, r8, gs', v', ts ++ r9.map PT.tm, by omega, rfl, rfl, rfl, rfl, he4', fun p hp => HSR.out p (by rw [show P.drop f = (P.drop s).drop (f - s) by rw [List.drop_drop]; congr 1; omega] at hp; exact List.mem_of_mem_drop hp), HRF8.out, HTS2.out, HSN.out⟩
              case measure => have := HG.out; omega
    · obtain rfl : s = n := by omega
      have HPL := Lib.hid (show P.take s = P by rw [← HPLN.out, List.take_length])
      have hgl : gs.length ≤ 100000 := by
        have a1 := hss.I.len; have a2 := hts.len
        rw [List.length_map] at a1
        have a3 : s * 3750 ≤ 6 * 3750 := Nat.mul_le_mul_right _ (by omega)
        omega
      have a3 : s * 3750 ≤ 22500 := by omega
      have a7 : s * pw 20 ≤ 6 * pw 20 := Nat.mul_le_mul_right _ (by omega)
      have a8 : pw 21 = pw 20 * 4294967296 := Nat.pow_succ ..
      have hnm : nrm ts ≤ pw 21 := by
        have := hts.nm
        generalize pw 20 = P20 at *
        omega
      have HP := Lib.hid (fun (e : Ending) (w' : World) (hr : PolyRes (cf ts) ts.length wr e w') => hr.good (fun t ht _ => hts.mb t ht) hnm)
      have HPC2 := Lib.hid (poly_any b0 g mb v ts gs wr hss.G hss.I hgl (Nat.lt_of_le_of_lt hnm (pw_lt (show 21 < 600 by decide))))
      have HCF := Lib.hid (fun m => show cf ts m = FF m by rw [hts.cf, HPL.out]; exact HPC.out m)
      have HTL := Lib.hid (Nat.le_trans hts.len a3)
      have HBE := Lib.hid hss.bel
      have s1 : ¬ (s : Int) < (s : Int) := by omega
      clear hss hts hgl a3 a7 a8 hnm hrf hrp
      go_wp2_with (go_at_call 37; refine HPC2.out.mono ?_; rintro e' w4 hr; obtain ⟨A5, c5, rs, rfl, hgd5, hb5⟩ := HP.out _ _ hr; have HGD := Lib.hid hgd5; have HB5 := Lib.hid hb5; clear hr hgd5 hb5)
      go_ret
      exact ⟨A5, c5, rs, rfl, { HGD.out with own := HGD.out.own.mono HBE.out.size, len := Nat.le_trans HGD.out.len HTL.out, cf := fun m => (HGD.out.cf m).trans (HCF.out m) }, HBE.out.trans (HB5.out.mono HBE.out.size)⟩
end Go.Proofs.YtpbapoanjkekmaaGreat
