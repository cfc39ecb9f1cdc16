/- Contract of sparse.Eval. -/
import Derived.IntWalk
import Derived.RegionTactic
import Derived.Sort.LoopGhostIn
import Derived.Sort.CutIn
import Derived.Deep.RegionHeld3
import Derived.Test.YtpbapoanjkekmaaGreatT4
import Derived.Test.YtpbapoanjkekmaaGreatPE
import Derived.Test.YtpbapoanjkekmaaGreatPG
import Derived.Test.YtpbapoanjkekmaaGreatPH
namespace Go.Proofs.YtpbapoanjkekmaaGreat
open Go.RowKit Go.Shelf
attribute [local go_sem] Oper.semAt_some

theorem NatIn.farP {B : Nat} {W W' : World} {row : Option Nat} {B' c : Nat} {A : Option Addr} {ds : List Nat} (h : NatIn W B' A c ds) (hg : W.grownBy W' row) (hr : ∀ r, row = some r → B ≤ r ∧ ∃ o : Obj, W.heap[r]? = some o ∧ o.isCells = false) : NatIn W' B' A c ds :=
  ⟨⟨h.rd.1, fun hp => by obtain ⟨b, o, e, hb, hc⟩ := h.rd.2 hp; exact ⟨b, o, e, hb, fun j u hu => cell_kept (hc j u hu) hg (fun r e => (hr r e).2)⟩⟩, h.dg, h.cap⟩
theorem below_keepsP {B : Nat} {W W' : World} (h : Below W.heap.size W W') : KeepsFrom B W W' := ⟨h.size, fun k _ _ hk _ => (h.block k (Array.getElem?_eq_some_iff.1 hk).1).trans hk⟩
theorem Blk.farP {B : Nat} {W W' : World} {row : Option Nat} {k : Nat} {t : TypeId} {cs : Array Value} (h : Blk W k t cs) (hg : W.grownBy W' row) (hr : ∀ r, row = some r → B ≤ r ∧ ∃ o : Obj, W.heap[r]? = some o ∧ o.isCells = false) : Blk W' k t cs :=
  h.grown hg (fun e' => by obtain ⟨_, o, ho, hc⟩ := hr k e'.symm; rw [show W.heap[k]? = _ from h] at ho; cases ho; cases hc)
theorem told_memP {ps pre : List PT} {x : PT} (h : pre.map PT.tm ++ [x.tm] = (ps.take (pre.length + 1)).map PT.tm) (hl : pre.length < ps.length) : pre.map PT.tm = (ps.take pre.length).map PT.tm ∧ ∃ p, ps[pre.length]? = some p ∧ p.tm = x.tm := by
  obtain ⟨p, hp⟩ : ∃ p, ps[pre.length]? = some p := ⟨_, List.getElem?_eq_getElem hl⟩
  rw [take_snoc_tm hp] at h
  obtain ⟨h1, h2⟩ := List.append_inj' h rfl
  exact ⟨h1, p, hp, by simpa using h2.symm⟩
theorem mb_gt {E : Nat} {m : Mo} (h : MB (E : Int) m) (k : Nat) (hk : k < 4) : (gt m k).toNat ≤ E := by
  obtain ⟨h0, h1, h2, h3⟩ := h
  rcases (by omega : k = 0 ∨ k = 1 ∨ k = 2 ∨ k = 3) with rfl | rfl | rfl | rfl <;> simp only [gt] <;> omega
theorem vld_gt {m : Mo} (h : vld m = true) (k : Nat) (hk : k < 4) : 0 ≤ gt m k := by
  rw [vld_iff] at h
  obtain ⟨h0, h1, h2, h3⟩ := h
  rcases (by omega : k = 0 ∨ k = 1 ∨ k = 2 ∨ k = 3) with rfl | rfl | rfl | rfl <;> simp only [gt] <;> omega
theorem tvT_same {pt : Nat → Rat} {x : Rat} {m : Mo} {j : Nat} (h : gt m j = 0) : tvT pt x m (j + 1) = tvT pt x m j := by
  simp only [tvT, h]
  grind
theorem tvT_zero {pt : Nat → Rat} {x : Rat} {m : Mo} {j n : Nat} (hp : pt j = 0) (hn : gt m j = (n : Int)) (h0 : n ≠ 0) : ∀ k, tvT pt x m (j + 1 + k) = 0
  | 0 => by
    simp only [tvT, hn, hp, Int.toNat_natCast]
    obtain ⟨n, rfl⟩ : ∃ y, n = y + 1 := ⟨n - 1, by omega⟩
    rw [Rat.pow_succ]
    grind
  | k + 1 => by
    show tvT pt x m (j + 1 + k) * _ = 0
    rw [tvT_zero hp hn h0 k]
    grind
def rcells (q : Rat) (A : Option Addr) (c : Nat) (D : Option Addr) (cd : Nat) : Array Value := #[.bool (decide (q.num < 0)), .slice A (dig q.num.natAbs).length c, .slice D (dig q.den).length cd]
/-- between two rounds of the inner loop: the box holds the term's value so far -/
structure VI (W V : World) (g : Nat) (q : Rat) (A : Option Addr) (c : Nat) (D : Option Addr) (cd : Nat) : Prop where
  bel : Below W.heap.size W V
  gt : W.heap.size ≤ g
  bx : Blk V g 33 (rcells q A c D cd)
  l1 : (dig q.num.natAbs).length ≤ c
  l2 : (dig q.den).length ≤ cd
  n1 : NatB V A (dig q.num.natAbs)
  n2 : NatB V D (dig q.den)
theorem VI.put {W V V' : World} {g : Nat} {q r : Rat} {A D A' D' : Option Addr} {c cd c' cd' : Nat} (h : VI W V g q A c D cd) (hb : Below V.heap.size V V') (l1 : (dig r.num.natAbs).length ≤ c') (l2 : (dig r.den).length ≤ cd') (n1 : NatB V' A' (dig r.num.natAbs)) (n2 : NatB V' D' (dig r.den)) :
    VI W (((V'.setCell ⟨g, 0, none⟩ (.bool (decide (r.num < 0)))).setCell ⟨g, 1, none⟩ (.slice A' (dig r.num.natAbs).length c')).setCell ⟨g, 2, none⟩ (.slice D' (dig r.den).length cd')) g r A' c' D' cd' := by
  have hs := h.bx.old hb
  exact ⟨(((h.bel.trans (hb.mono h.bel.size)).setCell (p := ⟨g, 0, none⟩) h.gt _).setCell (p := ⟨g, 1, none⟩) h.gt _).setCell (p := ⟨g, 2, none⟩) h.gt _,
    h.gt, ((hs.set_ 0 _).set_ 1 _).set_ 2 _, l1, l2, NatB.keepTwo hs (by decide) _ _ _ n1, NatB.keepTwo hs (by decide) _ _ _ n2⟩
theorem VI.start {W V : World} {q : Rat} {A D : Option Addr} {c cd : Nat} (hb : Below W.heap.size W V) (l1 : (dig q.num.natAbs).length ≤ c) (l2 : (dig q.den).length ≤ cd) (n1 : NatB V A (dig q.num.natAbs)) (n2 : NatB V D (dig q.den)) :
    VI W (V.alloc (.cells (rcells q A c D cd) 33)) V.heap.size q A c D cd := by
  have ha := (Below.refl V.heap.size V).alloc (Nat.le_refl _) (.cells (rcells q A c D cd) 33)
  exact ⟨hb.trans (ha.mono hb.size), hb.size, Blk.new V _ _, l1, l2, n1.old ha, n2.old ha⟩
/-- between two rounds of the range: the box holds the sum so far -/
def VInv (Ba Br Bt : Nat) (av : Value) (pt : Nat → Rat) (w : World) (pre : List PT) (W : World) : Prop :=
  ∃ A c D cd, Blk W Bt 33 (rcells (evL pt (pre.map PT.tm)) A c D cd) ∧ (dig (evL pt (pre.map PT.tm)).num.natAbs).length ≤ c ∧ (dig (evL pt (pre.map PT.tm)).den).length ≤ cd ∧ NatB W A (dig (evL pt (pre.map PT.tm)).num.natAbs) ∧ NatB W D (dig (evL pt (pre.map PT.tm)).den) ∧
    Blk W Br 33 #[.bool false, .slice none 0 0, .slice none 0 0] ∧ Blk W Ba 24 #[av] ∧ Below w.heap.size w W
theorem VInv.own {Ba Br Bt B : Nat} {av : Value} {pt : Nat → Rat} {w : World} (hw : w.heap.size ≤ B) : OwnFrom B (VInv Ba Br Bt av pt w) := by
  rintro pre W W' row ⟨A, c, D, cd, h1, h2, h3, h4, h5, h6, h7, h8⟩ hg hr
  exact ⟨A, c, D, cd, h1.farP hg hr, h2, h3, h4.keep (fun _ _ hb => hb.farP hg hr), h5.keep (fun _ _ hb => hb.farP hg hr), h6.farP hg hr, h7.farP hg hr, ownFrom_below (β := Unit) (Nat.le_refl _) hw () W W' row h8 hg hr⟩
def VRound (qs pre : List PT) (x : PT) (F : Nat → Nat → Act) (a : Act) (W : World) : Prop :=
  ∃ Bm Bx Bd, Blk W Bm 44 (moV x.m) ∧ Blk W Bx 31 #[.bool x.ng, .slice x.A x.ds.length x.c] ∧ NatIn W Bd x.A x.c x.ds ∧ Bd ≤ W.heap.size ∧ x.ds.length ≤ 1000 ∧ pre.map PT.tm ++ [x.tm] = (qs.take (pre.length + 1)).map PT.tm ∧ pre.length < qs.length ∧ a = F Bm Bx
theorem VRound.own {qs pre : List PT} {x : PT} {F : Nat → Nat → Act} {a : Act} {B : Nat} : OwnFrom B (fun (_ : Unit) W => VRound qs pre x F a W) := by
  rintro _ W W' row ⟨Bm, Bx, Bd, h0, h1, h2, h3, h4⟩ hg hr
  exact ⟨Bm, Bx, Bd, h0.farP hg hr, h1.farP hg hr, h2.farP hg hr, Nat.le_trans h3 hg.size, h4⟩

set_option maxRecDepth 100000 in
set_option maxHeartbeats 4000000 in
theorem Eval_any (A : Option Addr) (c B N E M : Nat) (ps : List PT) (Av : Option Addr) (cv : Nat) (vs : List QT) (P Z : Nat) (w : World) (hB : B ≤ w.heap.size) (h : PIn w B A ps N (E : Int) M) (hv : RatsIn w B Av vs) (hN : N ≤ 50000) (hM : M < Big) (hP0 : 0 < P) (hP : ∀ x ∈ vs, x.ds.length ≤ P ∧ x.es.length ≤ P) (hZ0 : 0 < Z) (hZ : M < 4294967296 ^ Z)
    (hPE : P * E ≤ 100000) (hL1 : Z + 4 * (P * E) ≤ 150000) :
    Calls Tryz.prog 9 #[.slice A ps.length c, .slice Av vs.length cv] w (RatRes (evL (ptL vs) (ps.map PT.tm)) w) := by
  have HT := Lib.hid (fun (W : World) (hW : Below w.heap.size w W) => Terms_any A c B N (E : Int) M ps W (Nat.le_trans hB hW.size) (h.below (hW.mono hB)) hN hM)
  have hpt : ∀ i, RL (ptL vs i) P := ptL_RL hP0 (fun x hx => ⟨(hP x hx).1, (hP x hx).2, (hv.nn x hx).dg, (hv.nd x hx).dg⟩)
  have HPT := Lib.hid hpt
  have HQ0 := Lib.hid (evL_nil (ptL vs))
  have HO := Lib.hid (fun (W : World) => ROf_any 0 (by omega) (by omega) W)
  rw [show ((0 : Int) : Rat) = evL (ptL vs) [] from rfl] at HO
  have HO2 := Lib.hid HO.out
  have HVS := Lib.hid (fun (V : World) (hW : Below w.heap.size w V) => hv.below (hW.mono hB))
  have HPV := Lib.hid hP
  have HEX := Lib.hid (fun (qs : List PT) (hcf : ∀ m, cf (qs.map PT.tm) m = cf (ps.map PT.tm) m) => evL_ext hcf (ptL vs))
  generalize hpe : evL (ptL vs) (ps.map PT.tm) = qf at *
  clear h hv hpt hP hpe
  unfold RatRes at HO HO2
  generalize hq0 : evL (ptL vs) [] = q0 at *
  have HQN := Lib.hid hq0
  clear hq0
  generalize hvl : vs.length = vn at *
  have HVL := Lib.hid hvl
  clear hvl
  refine (callsIn_wide (n := 3)).1 ?_
  refine callsIn_of_wp_marks Tryz.func9 rfl trivial ?_ rfl
  simp only [Tryz.ntmps9, List.size_toArray, List.length_cons, List.length_nil, Nat.reduceAdd, Nat.reduceSub, Array.replicate_succ, Array.replicate_zero, List.push_toArray, List.append_toArray, List.nil_append, List.cons_append]
  have ha1 := (Below.refl w.heap.size w).alloc (Nat.le_refl _) (.cells #[.slice Av vn cv] 24)
  have ha2 := ha1.alloc ha1.size (.cells #[.bool false, .slice none 0 0, .slice none 0 0] 33)
  have kA := Lib.hid ((Blk.new w 24 #[.slice Av vn cv]).alloc (.cells #[.bool false, .slice none 0 0, .slice none 0 0] 33))
  have kR := Lib.hid (Blk.new (w.alloc (.cells #[.slice Av vn cv] 24)) 33 #[.bool false, .slice none 0 0, .slice none 0 0])
  rw [show (w.alloc (.cells #[.slice Av vn cv] 24)).heap.size = w.heap.size + 1 by simp] at kR
  have HA2 := Lib.hid ha2
  clear ha1 ha2
  gi_wp2_with (first | (refine ⟨trivial, ?_⟩; gi_at_call 22; refine (callsIn_wide.2 (HO.out _)).mono ?_; rintro e w1 ⟨A0, c0, D0, d0, rfl, l01, l02, n01, n02, hbo⟩; have hx1 := HA2.out.trans (hbo.mono HA2.out.size); have kA1 := Lib.hid (kA.out.old hbo); have kR1 := Lib.hid (kR.out.old hbo)) | (refine ⟨trivial, ?_⟩; gi_at_call 30; refine (callsIn_wide.2 (HT.out _ (hx1.alloc hx1.size _))).mono ?_; rintro e w2 ⟨b, A1, c1, qs, rfl, hblk, hbb, hgd, hb⟩))
  have hb1 : Below w.heap.size w w2 := (hx1.alloc hx1.size _).trans (hb.mono (Nat.le_trans hx1.size (by simp)))
  have hq : Blk w2 w1.heap.size 33 (rcells q0 A0 c0 D0 d0) := (Blk.new w1 _ _).old hb
  have hr : Blk w2 (w.heap.size + 1) 33 #[.bool false, .slice none 0 0, .slice none 0 0] := (kR1.out.alloc _).old hb
  have ha : Blk w2 w.heap.size 24 #[.slice Av vn cv] := (kA1.out.alloc _).old hb
  have hn1 : NatB w2 A0 (dig q0.num.natAbs) := (n01.keep fun _ _ k => k.alloc _).old hb
  have hn2 : NatB w2 D0 (dig q0.den) := (n02.keep fun _ _ k => k.alloc _).old hb
  have hbr : w.heap.size + 1 < w1.heap.size := kR1.out.lt
  have HGD := Lib.hid hgd
  have hqs : qs.length ≤ 100000 := by have := hgd.len; omega
  have hdl : ∀ p ∈ qs, p.ds.length ≤ 1000 := fun p hp => Nat.le_trans (hgd.dlen (k := 600) hM hp) (by omega)
  have hown := hgd.own
  clear hb hbo kA kR kA1 kR1 n01 n02 hx1 hbb hgd HT HO HA2
  generalize (w1.alloc (.cells #[.bool (decide (q0.num < 0)), .slice A0 (dig q0.num.natAbs).length c0, .slice D0 (dig q0.den).length d0] 33)).heap.size = bT at *
  generalize w1.heap.size = bt at *
  refine wpIn_range_tells (F := Fence.wide) (n := 3) rfl (by omega) (gf := 53) (lb := #[.pointer (some ⟨b, 0, none⟩)]) rfl trivial (enters_of Tryz.func53 (by kernel_rfl) rfl)
    (Terms1_tells 2 (by omega) b bT A1 c1 qs w2 hqs hblk hown hdl) KT.trans (fun W l o o' h1 h2 => KT.put o' h1 h2) (fun _ => rfl)
    (VInv w.heap.size (w.heap.size + 1) bt (.slice Av vn cv) (ptL vs) w) (fun _ _ _ => False)
    (VInv.own hb1.size) (fun _ _ _ _ _ hs _ _ => hs) ⟨A0, c0, D0, d0, by rw [List.map_nil, HQN.out]; exact hq, by rw [List.map_nil, HQN.out]; exact l01, by rw [List.map_nil, HQN.out]; exact l02, by rw [List.map_nil, HQN.out]; exact hn1, by rw [List.map_nil, HQN.out]; exact hn2, hr, ha, hb1⟩
    (fun pre x a' W => VRound qs pre x (fun Bm Bx => { tmps := #[.slice A ps.length c, .slice Av vn cv, undef, .pointer (some ⟨w.heap.size, 0, none⟩), .pointer (some ⟨w.heap.size + 1, 0, none⟩), .pointer (some ⟨bt, 0, none⟩), .pointer (some ⟨Bm, 0, none⟩), .pointer (some ⟨Bx, 0, none⟩), undef, undef, undef, .agg #[.bool (decide (q0.num < 0)), .slice A0 (dig q0.num.natAbs).length c0, .slice D0 (dig q0.den).length d0], .slice A ps.length c, .func (.func 53) #[] #[.pointer (some ⟨b, 0, none⟩)], .agg #[.int .i64 x.m.1, .int .i64 x.m.2.1, .int .i64 x.m.2.2.1, .int .i64 x.m.2.2.2], .agg #[.bool x.ng, .slice x.A x.ds.length x.c], undef, undef, undef, undef, undef, undef, undef, undef, undef, undef, undef, undef, undef, undef, undef, undef, undef, undef, undef, undef, undef, undef, undef, undef, undef, undef, undef], defers := [] }) a' W)
    (fun pre x a' => VRound.own)
    ?assign ?body ?done ?stop
  case assign =>
    rintro l pre x W K ⟨Ai, ci, Di, di, i1, i2, i3, i4, i5, i6, i7, i8⟩ ⟨t1, t2, t3, t4, t5⟩ hK
    unfold yargs moV
    have hba := (Below.refl W.heap.size W).alloc (Nat.le_refl _) (.cells #[.int .i64 x.m.1, .int .i64 x.m.2.1, .int .i64 x.m.2.2.1, .int .i64 x.m.2.2.2] 44)
    have hbb := hba.alloc hba.size (.cells #[.bool x.ng, .slice x.A x.ds.length x.c] 31)
    have HT4 := Lib.hid t4; have HT1 := Lib.hid (t1.below hbb); have HT3 := Lib.hid t3
    have kM := Lib.hid ((Blk.new W 44 #[.int .i64 x.m.1, .int .i64 x.m.2.1, .int .i64 x.m.2.2.1, .int .i64 x.m.2.2.2]).alloc (.cells #[.bool x.ng, .slice x.A x.ds.length x.c] 31))
    have kX := Lib.hid (Blk.new (W.alloc (.cells #[.int .i64 x.m.1, .int .i64 x.m.2.1, .int .i64 x.m.2.2.1, .int .i64 x.m.2.2.2] 44)) 31 #[.bool x.ng, .slice x.A x.ds.length x.c])
    rw [show (W.alloc (.cells #[.int .i64 x.m.1, .int .i64 x.m.2.1, .int .i64 x.m.2.2.1, .int .i64 x.m.2.2.2] 44)).heap.size = W.heap.size + 1 by simp] at kX
    have HI := Lib.hid (show VInv w.heap.size (w.heap.size + 1) bt (.slice Av vn cv) (ptL vs) w pre ((W.alloc (.cells #[.int .i64 x.m.1, .int .i64 x.m.2.1, .int .i64 x.m.2.2.1, .int .i64 x.m.2.2.2] 44)).alloc (.cells #[.bool x.ng, .slice x.A x.ds.length x.c] 31)) from ⟨Ai, ci, Di, di, i1.old hbb, i2, i3, i4.old hbb, i5.old hbb, i6.old hbb, i7.old hbb, i8.trans (hbb.mono i8.size)⟩)
    have HBB := Lib.hid hbb
    clear t4 t1 t3 t2 i1 i2 i3 i4 i5 i6 i7 i8 hba hbb
    gi_wp2
    exact hK _ _ (((KeepsOthers.alloc _ _).from _).trans ((KeepsOthers.alloc _ _).from _)) (.old HBB.out) HI.out ⟨W.heap.size, _, W.heap.size, kM.out, kX.out, HT1.out, HBB.out.size, HT3.out, HT4.out, t5, rfl⟩
  case body =>
    rintro l pre x a' W hl ⟨Ai, ci, Di, di, i1, i2, i3, i4, i5, i6, i7, i8⟩ ⟨Bm, Bx, Bd, hm, hx, hxn, hBd, hxl, htold, hlt, rfl⟩
    obtain ⟨hpre, q, hq1, hqx⟩ := told_memP htold hlt
    have hqm : q.m = x.m := congrArg Prod.snd hqx
    have hqz : ival q.ng q.ds = ival x.ng x.ds := congrArg Prod.fst hqx
    have hvx : vld x.m = true := by rw [← hqm]; exact HGD.out.vl (List.mem_of_getElem? hq1)
    have hmb : MB (E : Int) x.m := by rw [← hqm]; exact HGD.out.mb q (List.mem_of_getElem? hq1)
    have hzx : (ival x.ng x.ds).natAbs < 4294967296 ^ Z := by
      rw [← hqz]
      exact Nat.lt_of_le_of_lt (Nat.le_trans (nrm_mem (t := q.tm) (List.mem_map.2 ⟨q, List.mem_of_getElem? hq1, rfl⟩)) HGD.out.nm) hZ
    have hsn : evL (ptL vs) ((pre ++ [x]).map PT.tm) = evL (ptL vs) (pre.map PT.tm) + tvT (ptL vs) ((ival x.ng x.ds : Int) : Rat) x.m 4 := by
      rw [List.map_append, List.map_cons, List.map_nil, evL_snoc]
      show _ + (if vld x.m = true then ((ival x.ng x.ds : Int) : Rat) * mval (ptL vs) x.m else 0) = _
      rw [if_pos hvx, tvT_four]
    have hrl : ∀ k, k ≤ 4 → RL (tvT (ptL vs) ((ival x.ng x.ds : Int) : Rat) x.m k) 150000 := fun k hk => (tvT_RL HPT.out (RL.int hZ0 hzx) (fun k hk => mb_gt hmb k hk) k hk).mono (by
      have := Nat.mul_le_mul_right (P * E) hk
      omega)
    have hrs : RL (evL (ptL vs) (pre.map PT.tm)) 150000 := by
      refine (evL_RLn (P := P) (E := E) HPT.out hZ0 _ ?_ ?_).mono hL1
      · rw [hpre]
        intro t ht k hk
        obtain ⟨y, hy, rfl⟩ := List.mem_map.1 ht
        exact mb_gt (HGD.out.mb y (List.mem_of_mem_take hy)) k hk
      · rw [hpre]
        exact Nat.lt_of_le_of_lt (Nat.le_trans (nrm_take_tm qs _) HGD.out.nm) hZ
    have HFR := Lib.hid (RFrom_any x.ng x.A x.c W.heap.size x.ds W (Nat.le_refl _) (hxn.more hBd) (by omega))
    unfold RatRes at HFR
    have HEX2 := Lib.hid (show ∀ (V : World) (q' : Rat) (A : Option Addr) (c : Nat) (D : Option Addr) (cd : Nat), q' = evL (ptL vs) (pre.map PT.tm) + tvT (ptL vs) ((ival x.ng x.ds : Int) : Rat) x.m 4 → (dig q'.num.natAbs).length ≤ c → (dig q'.den).length ≤ cd → NatB V A (dig q'.num.natAbs) → NatB V D (dig q'.den) → Blk V bt 33 (rcells q' A c D cd) → Blk V (w.heap.size + 1) 33 #[.bool false, .slice none 0 0, .slice none 0 0] → Blk V w.heap.size 24 #[.slice Av vn cv] → Below w.heap.size w V → VInv w.heap.size (w.heap.size + 1) bt (.slice Av vn cv) (ptL vs) w (pre ++ [x]) V from
      fun V q' A c D cd e h1 h2 h3 h4 h5 h6 h7 h8 => by
        unfold VInv
        rw [hsn, ← e]
        exact ⟨A, c, D, cd, h5, h1, h2, h3, h4, h6, h7, h8⟩)
    have HNN := Lib.hid (fun (j : Nat) (hj : j < 4) => (⟨(gt x.m j).toNat, (Int.toNat_of_nonneg (vld_gt hvx j hj)).symm, mb_gt hmb j hj⟩ : ∃ n : Nat, gt x.m j = (n : Int) ∧ n ≤ E))
    have HIX := Lib.hid (fun (j : Nat) (hj : j < 4) => Tryz.index_mono x.m j hj)
    unfold moV at HIX
    have HRL := Lib.hid hrl; have HRS := Lib.hid hrs
    have HT2 := Lib.hid (fun (j : Nat) => show tvT (ptL vs) ((ival x.ng x.ds : Int) : Rat) x.m (j + 1) = tvT (ptL vs) ((ival x.ng x.ds : Int) : Rat) x.m j * ptL vs j ^ (gt x.m j).toNat from rfl)
    have HT0 := Lib.hid (fun (j : Nat) (h : gt x.m j = 0) => tvT_same (pt := ptL vs) (x := ((ival x.ng x.ds : Int) : Rat)) h)
    have HTZ := Lib.hid (fun (j n : Nat) (hj : j < 4) (hp : ptL vs j = 0) (hn : gt x.m j = (n : Int)) (h0 : n ≠ 0) => (show tvT (ptL vs) ((ival x.ng x.ds : Int) : Rat) x.m 4 = 0 by
      have := tvT_zero (pt := ptL vs) (x := ((ival x.ng x.ds : Int) : Rat)) hp hn h0 (3 - j)
      rwa [show j + 1 + (3 - j) = 4 by omega] at this))
    have HTX := Lib.hid (show tvT (ptL vs) ((ival x.ng x.ds : Int) : Rat) x.m 0 = ((ival x.ng x.ds : Int) : Rat) from rfl)
    have hmix : Tryz.prog.follows .mixedOrders = true := by kernel_rfl
    clear hpre hq1 hqx hqm hqz hvx hmb hzx hsn hrl hrs htold hxn hBd
    generalize ((ival x.ng x.ds : Int) : Rat) = x0 at *
    generalize tvT (ptL vs) x0 x.m = tv at *
    generalize evL (ptL vs) (pre.map PT.tm) = s0 at *
    have e0 : W.cell? ⟨Bx, 0, none⟩ = some (.bool x.ng) := hx.cell 0
    have e1 : W.cell? ⟨Bx, 1, none⟩ = some (.slice x.A x.ds.length x.c) := hx.cell 1
    have HM := Lib.hid hm
    have HI1 := Lib.hid i1; have HI2 := Lib.hid i2; have HI3 := Lib.hid i3; have HI4 := Lib.hid i4; have HI5 := Lib.hid i5; have HI6 := Lib.hid i6; have HI7 := Lib.hid i7; have HI8 := Lib.hid i8
    unfold moV at HM
    clear i1 i2 i3 i4 i5 i6 i7 i8 hx hm hxl hlt
    gi_wp2_with (first | (refine ⟨trivial, ?_⟩; gi_at_call 31; refine (callsIn_wide.2 HFR.out).mono ?_; rintro e w3 ⟨A3, c3, D3, d3, rfl, l31, l32, n31, n32, hb3⟩; have HST := Lib.hid (VI.start hb3 l31 l32 n31 n32); have hm3 := HM.out.old hb3; have m0 : w3.cell? ⟨Bm, 0, none⟩ = some (.int .i64 x.m.1) := hm3.cell 0; have m1 : w3.cell? ⟨Bm, 1, none⟩ = some (.int .i64 x.m.2.1) := hm3.cell 1; have m2 : w3.cell? ⟨Bm, 2, none⟩ = some (.int .i64 x.m.2.2.1) := hm3.cell 2; have m3 : w3.cell? ⟨Bm, 3, none⟩ = some (.int .i64 x.m.2.2.2) := hm3.cell 3; have m4 := hm3.lt; clear hm3 l31 l32 n31 n32 hb3))
    generalize w3.heap.size = g8 at *
    gi_loopg [9, 10, 19] 4 (fun gn _ _ ix wr => ∃ (j : Nat) (A : Option Addr) (c : Nat) (D : Option Addr) (d : Nat), j ≤ 4 ∧ gn = 4 - j ∧ ix = .int .i64 (j : Int) ∧ VI W wr g8 (tv j) A c D d)
    case atStart => exact ⟨0, A3, c3, D3, d3, by omega, rfl, rfl, by rw [HTX.out]; exact HST.out⟩
    case round =>
      clear HST m0 m1 m2 m3 m4
      obtain ⟨j, A4, c4, D4, d4, hj, hgj, rfl, hvi⟩ := hrel
      have HG := Lib.hid hgj
      clear hgj
      by_cases hj4 : j < 4
      · obtain ⟨n, hn, hnE⟩ := HNN.out j hj4
        have hix := HIX.out j hj4
        have hj4' : (j : Int) < 4 := by omega
        have HHN := Lib.hid hn
        by_cases hn0 : n = 0
        · have HZR := Lib.hid (HT0.out j (by rw [hn, hn0]; rfl))
          rw [hn, hn0, show ((0 : Nat) : Int) = 0 from rfl] at hix
          have HVI := Lib.hid hvi
          clear hvi hn hn0 hnE HHN e0 e1
          gi_wp2
          gi_roundg (4 - (j + 1))
          case rel => exact ⟨j + 1, A4, c4, D4, d4, by omega, rfl, by go_num, by rw [HZR.out]; exact HVI.out⟩
          case measure => have := HG.out; omega
        · rw [hn] at hix
          have hn1 : ¬ ((n : Int) = 0) := by omega
          by_cases hjl : j < vn
          · have hj5 : ¬ ((j : Int) ≥ (vn : Int)) := by omega
            have hj6 : (j : Int) < (vn : Int) := by omega
            have hj7 : (0 : Int) ≤ (j : Int) := by omega
            obtain ⟨p, hp⟩ : ∃ p, vs[j]? = some p := ⟨_, List.getElem?_eq_getElem (by have := HVL.out; omega)⟩
            have hbw := HI8.out.trans (hvi.bel.mono HI8.out.size)
            have hri := HVS.out wr hbw
            obtain ⟨ba, oa, rfl, hbaB, y0, y1, y2⟩ := hri.at_ hp
            have hpm := List.mem_of_getElem? hp
            obtain ⟨hp1, hp2⟩ := HPV.out p hpm
            have hBW : B ≤ wr.heap.size := Nat.le_trans hB hbw.size
            have hPn : P * n ≤ P * E := Nat.mul_le_mul_left P hnE
            have HPW := Lib.hid (fun (V : World) (hV : Below wr.heap.size wr V) => power_any p.ng p.A p.c p.ds p.D p.cd p.es wr.heap.size n P V hV.size (((hri.nn p hpm).more hBW).below hV) (((hri.nd p hpm).more hBW).below hV) hp1 hp2 hP0 (by omega) (by omega))
            unfold RatRes at HPW
            have hRL2 : RL (mkRat (ival p.ng p.ds) (val p.es) ^ n) 150000 := by
              have := HPT.out j
              rw [ptL_some hp] at this
              obtain ⟨y, rfl⟩ : ∃ y, n = y + 1 := ⟨n - 1, by omega⟩
              exact (this.pow y).mono (by omega)
            have HMU := Lib.hid (fun (V : World) (A5 : Option Addr) (c5 : Nat) (D5 : Option Addr) (d5 : Nat) (hV : Below wr.heap.size wr V) l1 l2 n1 n2 => RMul_r (tv j) (mkRat (ival p.ng p.ds) (val p.es) ^ n) A4 c4 D4 d4 A5 c5 D5 d5 V.heap.size V (Nat.le_refl _) (RIn.made hvi.l1 hvi.l2 (hvi.n1.old hV) (hvi.n2.old hV)) (RIn.made l1 l2 n1 n2) (HRL.out j hj) hRL2 (Nat.le_refl _) (Nat.le_refl _))
            unfold RatRes at HMU
            unfold rvl at HMU
            have htt : tv (j + 1) = tv j * mkRat (ival p.ng p.ds) (val p.es) ^ n := by
              rw [HT2.out, ptL_some hp, hn, Int.toNat_natCast]
              rfl
            rw [← htt] at HMU
            have HPUT := Lib.hid (fun (W' : World) (A' D' : Option Addr) (c' cd' : Nat) hb l1 l2 n1 n2 => hvi.put (r := tv (j + 1)) (V' := W') (A' := A') (D' := D') (c' := c') (cd' := cd') hb l1 l2 n1 n2)
            have hg8 := hvi.gt
            have HVX := Lib.hid hvi.bx
            unfold rcells at HVX
            have a0 := (HI7.out.old hvi.bel).cell 0
            have HA7 := Lib.hid (HI7.out.old hvi.bel)
            have hbal : ba < wr.heap.size := Nat.lt_of_lt_of_le hbaB hBW
            have q1 : g8 ≠ w.heap.size := by have := HI8.out.size; have := HI7.out.lt; omega
            have q2 : g8 ≠ ba := by have := HI8.out.size; omega
            clear hvi hn HHN e0 e1 hnE hPn hp1 hp2 hpm hp hri hbw hRL2 htt a0
            generalize hrr : tv (j + 1) = r at *
            have HRR := Lib.hid hrr
            clear hrr
            generalize tv j = q at *
            generalize mkRat (ival p.ng p.ds) (val p.es) ^ n = pq at *
            generalize p.ds.length = dl at *
            generalize p.es.length = el at *
            generalize p.ng = pg at *
            have KF := Lib.hid (fun (V : World) (hV : Below wr.heap.size wr V) => (⟨(HA7.out.old hV).cell 0, (hV.cell (p := ⟨ba, oa + j * 3, none⟩) hbal).trans y0, (hV.cell (p := ⟨ba, oa + j * 3 + 1, none⟩) hbal).trans y1, (hV.cell (p := ⟨ba, oa + j * 3 + 2, none⟩) hbal).trans y2⟩ :
              V.cell? ⟨w.heap.size, 0, none⟩ = some (.slice (some ⟨ba, oa, none⟩) vn cv) ∧ V.cell? ⟨ba, oa + j * 3, none⟩ = some (.bool pg) ∧ V.cell? ⟨ba, oa + j * 3 + 1, none⟩ = some (.slice p.A dl p.c) ∧ V.cell? ⟨ba, oa + j * 3 + 2, none⟩ = some (.slice p.D el p.cd)))
            have KS := Lib.hid (fun (V : World) (hV : Below wr.heap.size wr V) (a1 a2 a3 : Value) => (⟨cell_far3 (KF.out V hV).1 q1 a1 a2 a3, cell_far3 (KF.out V hV).2.1 q2 a1 a2 a3, cell_far3 (KF.out V hV).2.2.1 q2 a1 a2 a3, cell_far3 (KF.out V hV).2.2.2 q2 a1 a2 a3⟩ :
              (((V.setCell ⟨g8, 0, none⟩ a1).setCell ⟨g8, 1, none⟩ a2).setCell ⟨g8, 2, none⟩ a3).cell? ⟨w.heap.size, 0, none⟩ = some (.slice (some ⟨ba, oa, none⟩) vn cv) ∧ (((V.setCell ⟨g8, 0, none⟩ a1).setCell ⟨g8, 1, none⟩ a2).setCell ⟨g8, 2, none⟩ a3).cell? ⟨ba, oa + j * 3, none⟩ = some (.bool pg) ∧ (((V.setCell ⟨g8, 0, none⟩ a1).setCell ⟨g8, 1, none⟩ a2).setCell ⟨g8, 2, none⟩ a3).cell? ⟨ba, oa + j * 3 + 1, none⟩ = some (.slice p.A dl p.c) ∧ (((V.setCell ⟨g8, 0, none⟩ a1).setCell ⟨g8, 1, none⟩ a2).setCell ⟨g8, 2, none⟩ a3).cell? ⟨ba, oa + j * 3 + 2, none⟩ = some (.slice p.D el p.cd)))
            have KG := Lib.hid (fun (V : World) (hV : Below wr.heap.size wr V) => HVX.out.old hV)
            clear q1 q2 hbal y0 y1 y2 hbaB HVX hg8
            have hb : Below wr.heap.size wr wr.drew := (Drawn.drew _).below _
            have hb0 : Below wr.heap.size wr wr := Below.refl _ _
            obtain ⟨za, zb, zc, zd⟩ := KF.out _ hb0
            have e5 : (j : Int).toNat = j := Int.toNat_natCast j
            gi_wp2
            refine region_held_round (S := fun w' => w'.cell? ⟨w.heap.size, 0, none⟩ = some (.slice (some ⟨ba, oa, none⟩) vn cv) ∧ w'.cell? ⟨ba, oa + j * 3, none⟩ = some (.bool pg) ∧ w'.cell? ⟨ba, oa + j * 3 + 1, none⟩ = some (.slice p.A dl p.c) ∧ w'.cell? ⟨ba, oa + j * 3 + 2, none⟩ = some (.slice p.D el p.cd)) (noDefer_of (by kernel_rfl)) hmix (KF.out _ hb) (fun hHeld => ?_)
            refine wpAnyH_take (i := 1) (v := ?v1) (by simp only [List.getElem?_toArray, List.getElem?_cons_succ, List.getElem?_cons_zero]; rfl) (by kernel_rfl) (by kernel_rfl) (by kernel_rfl) (by exact fun _ _ _ h => h) (Or.inl ⟨by rfl, ?hy1⟩) (by assumption) ?rest1
            case hy1 => (intro w0 hSw; (try dsimp only at hSw); go_simp; (first | done | (with_reducible rfl)))
            simp only [Act.put, List.setIfInBounds_toArray, List.set_cons_zero, List.set_cons_succ]
            refine wpAnyH_take (i := 2) (v := ?v2) (by simp only [List.getElem?_toArray, List.getElem?_cons_succ, List.getElem?_cons_zero]; rfl) (by kernel_rfl) (by kernel_rfl) (by kernel_rfl) (by exact fun _ _ _ h => h) (Or.inl ⟨by rfl, ?hy2⟩) (by assumption) ?rest2
            case hy2 => (intro w0 hSw; (try dsimp only at hSw); go_simp; (first | done | (with_reducible rfl)))
            simp only [Act.put, List.setIfInBounds_toArray, List.set_cons_zero, List.set_cons_succ]
            refine wpAnyH_take (i := 3) (v := ?v3) (by simp only [List.getElem?_toArray, List.getElem?_cons_succ, List.getElem?_cons_zero]; rfl) (by kernel_rfl) (by kernel_rfl) (by kernel_rfl) (by exact fun _ _ _ h => h) (Or.inl ⟨by rfl, ?hy3⟩) (by assumption) ?rest3
            case hy3 => (intro w0 hSw; (try dsimp only at hSw); go_simp; (first | done | (with_reducible rfl)))
            simp only [Act.put, List.setIfInBounds_toArray, List.set_cons_zero, List.set_cons_succ]
            refine wpAnyH_take (i := 4) (v := ?v4) (by simp only [List.getElem?_toArray, List.getElem?_cons_succ, List.getElem?_cons_zero]; rfl) (by kernel_rfl) (by kernel_rfl) (by kernel_rfl) (by exact fun _ _ _ h => h) (Or.inl ⟨by rfl, ?hy4⟩) (by assumption) ?rest4
            case hy4 => (intro w0 hSw; (try dsimp only at hSw); go_simp; (first | done | (with_reducible rfl)))
            simp only [Act.put, List.setIfInBounds_toArray, List.set_cons_zero, List.set_cons_succ]
            refine wpAnyH_take (i := 5) (v := ?v5) (by simp only [List.getElem?_toArray, List.getElem?_cons_succ, List.getElem?_cons_zero]; rfl) (by kernel_rfl) (by kernel_rfl) (by kernel_rfl) (by exact fun _ _ _ h => h) (Or.inl ⟨by rfl, ?hy5⟩) (by assumption) ?rest5
            case hy5 => (intro w0 hSw; (try dsimp only at hSw); go_simp; (first | done | (with_reducible rfl)))
            simp only [Act.put, List.setIfInBounds_toArray, List.set_cons_zero, List.set_cons_succ]
            refine wpAnyH_ready (rs := [0, 6]) (by kernel_rfl) (by simp) ?_
            refine AllReadyH.cons (by simp only [List.getElem?_toArray, List.getElem?_cons_zero]; rfl) (fun K hK => ?_) (AllReadyH.cons (by simp only [List.getElem?_toArray, List.getElem?_cons_succ, List.getElem?_cons_zero]; rfl) (fun K hK => ?_) AllReadyH.nil)
            · have s0 : wr.drew.cell? ⟨g8, 0, none⟩ = some (.bool (decide (q.num < 0))) := (KG.out _ hb).cell 0
              have s1 : wr.drew.cell? ⟨g8, 1, none⟩ = some (.slice A4 (dig q.num.natAbs).length c4) := (KG.out _ hb).cell 1
              have s2 : wr.drew.cell? ⟨g8, 2, none⟩ = some (.slice D4 (dig q.den).length d4) := (KG.out _ hb).cell 2
              go_simp
              refine hK.out _ _ (KF.out _ hb) (fun hHeld => ?_)
              clear hK K
              (try simp only [Act.put, List.setIfInBounds_toArray, List.set_cons_zero, List.set_cons_succ])
              refine wpAnyH_ready (rs := [6]) (by kernel_rfl) (by simp) ?_
              refine AllReadyH.cons (by simp only [List.getElem?_toArray, List.getElem?_cons_succ, List.getElem?_cons_zero]; rfl) (fun K hK => ?_) AllReadyH.nil
              go_simp
              go_at_call 32
              refine (HPW.out _ hb).mono ?_
              rintro e w4 ⟨A5, c5, D5, d5, rfl, l5, m5, n5, p5, hk⟩
              replace hb := hb.trans (hk.mono hb.size)
              go_simp
              refine hK.out _ _ (KF.out _ hb) (fun hHeld => ?_)
              clear hK K
              (try simp only [Act.put, List.setIfInBounds_toArray, List.set_cons_zero, List.set_cons_succ])
              refine wpAnyH_ready (rs := [7]) (by kernel_rfl) (by simp) ?_
              refine AllReadyH.cons (by simp only [List.getElem?_toArray, List.getElem?_cons_succ, List.getElem?_cons_zero]; rfl) (fun K hK => ?_) AllReadyH.nil
              go_simp
              go_at_call 15
              refine (HMU.out _ A5 c5 D5 d5 hb l5 m5 n5 p5).mono ?_
              rintro e w6 ⟨A6, c6, D6, d6, rfl, l6, m6, n6, p6, hk⟩
              replace hb := hb.trans (hk.mono hb.size)
              go_simp
              refine hK.out _ _ (KF.out _ hb) (fun hHeld => ?_)
              clear hK K
              (try simp only [Act.put, List.setIfInBounds_toArray, List.set_cons_zero, List.set_cons_succ])
              have kk := KG.out _ hb
              have u0 : w6.cell? ⟨g8, 0, none⟩ = some (.bool (decide (q.num < 0))) := kk.cell 0
              have u1 : w6.cell? ⟨g8, 1, none⟩ = some (.slice A4 (dig q.num.natAbs).length c4) := kk.cell 1
              have u2 : w6.cell? ⟨g8, 2, none⟩ = some (.slice D4 (dig q.den).length d4) := kk.cell 2
              have f0 := kk.frozen 0
              have f1 := kk.frozen 1
              have f2 := kk.frozen 2
              have z0 := kk.lt
              refine wpAnyH_ready (rs := [8]) (by kernel_rfl) (by simp) ?_
              refine AllReadyH.cons (by simp only [List.getElem?_toArray, List.getElem?_cons_succ, List.getElem?_cons_zero]; rfl) (fun K hK => ?_) AllReadyH.nil
              go_simp
              refine hK.out _ _ (KS.out _ hb _ _ _) (fun hHeld => ?_)
              clear hK K
              (try simp only [Act.put, List.setIfInBounds_toArray, List.set_cons_zero, List.set_cons_succ])
              refine wpAnyH_done (by kernel_rfl) ?_ _
              have HN := Lib.hid (HPUT.out w6 A6 D6 c6 d6 hb l6 m6 n6 p6)
              unfold OnlyN
              clear hHeld kk u0 u1 u2 f0 f1 f2 z0
              gi_wp2
              gi_roundg (4 - (j + 1))
              case rel => exact ⟨j + 1, A6, c6, D6, d6, by omega, rfl, by go_num, by rw [HRR.out]; exact HN.out⟩
              case measure => have := HG.out; omega
            · go_simp
              go_at_call 32
              refine (HPW.out _ hb).mono ?_
              rintro e w4 ⟨A5, c5, D5, d5, rfl, l5, m5, n5, p5, hk⟩
              replace hb := hb.trans (hk.mono hb.size)
              go_simp
              refine hK.out _ _ (KF.out _ hb) (fun hHeld => ?_)
              clear hK K
              (try simp only [Act.put, List.setIfInBounds_toArray, List.set_cons_zero, List.set_cons_succ])
              refine wpAnyH_ready (rs := [0]) (by kernel_rfl) (by simp) ?_
              refine AllReadyH.cons (by simp only [List.getElem?_toArray, List.getElem?_cons_zero]; rfl) (fun K hK => ?_) AllReadyH.nil
              have s0 : w4.cell? ⟨g8, 0, none⟩ = some (.bool (decide (q.num < 0))) := (KG.out _ hb).cell 0
              have s1 : w4.cell? ⟨g8, 1, none⟩ = some (.slice A4 (dig q.num.natAbs).length c4) := (KG.out _ hb).cell 1
              have s2 : w4.cell? ⟨g8, 2, none⟩ = some (.slice D4 (dig q.den).length d4) := (KG.out _ hb).cell 2
              go_simp
              refine hK.out _ _ (KF.out _ hb) (fun hHeld => ?_)
              clear hK K
              (try simp only [Act.put, List.setIfInBounds_toArray, List.set_cons_zero, List.set_cons_succ])
              refine wpAnyH_ready (rs := [7]) (by kernel_rfl) (by simp) ?_
              refine AllReadyH.cons (by simp only [List.getElem?_toArray, List.getElem?_cons_succ, List.getElem?_cons_zero]; rfl) (fun K hK => ?_) AllReadyH.nil
              go_simp
              go_at_call 15
              refine (HMU.out _ A5 c5 D5 d5 hb l5 m5 n5 p5).mono ?_
              rintro e w6 ⟨A6, c6, D6, d6, rfl, l6, m6, n6, p6, hk⟩
              replace hb := hb.trans (hk.mono hb.size)
              go_simp
              refine hK.out _ _ (KF.out _ hb) (fun hHeld => ?_)
              clear hK K
              (try simp only [Act.put, List.setIfInBounds_toArray, List.set_cons_zero, List.set_cons_succ])
              have kk := KG.out _ hb
              have u0 : w6.cell? ⟨g8, 0, none⟩ = some (.bool (decide (q.num < 0))) := kk.cell 0
              have u1 : w6.cell? ⟨g8, 1, none⟩ = some (.slice A4 (dig q.num.natAbs).length c4) := kk.cell 1
              have u2 : w6.cell? ⟨g8, 2, none⟩ = some (.slice D4 (dig q.den).length d4) := kk.cell 2
              have f0 := kk.frozen 0
              have f1 := kk.frozen 1
              have f2 := kk.frozen 2
              have z0 := kk.lt
              refine wpAnyH_ready (rs := [8]) (by kernel_rfl) (by simp) ?_
              refine AllReadyH.cons (by simp only [List.getElem?_toArray, List.getElem?_cons_succ, List.getElem?_cons_zero]; rfl) (fun K hK => ?_) AllReadyH.nil
              go_simp
              refine hK.out _ _ (KS.out _ hb _ _ _) (fun hHeld => ?_)
              clear hK K
              (try simp only [Act.put, List.setIfInBounds_toArray, List.set_cons_zero, List.set_cons_succ])
              refine wpAnyH_done (by kernel_rfl) ?_ _
              have HN := Lib.hid (HPUT.out w6 A6 D6 c6 d6 hb l6 m6 n6 p6)
              unfold OnlyN
              clear hHeld kk u0 u1 u2 f0 f1 f2 z0
              gi_wp2
              gi_roundg (4 - (j + 1))
              case rel => exact ⟨j + 1, A6, c6, D6, d6, by omega, rfl, by go_num, by rw [HRR.out]; exact HN.out⟩
              case measure => have := HG.out; omega
          · have hj5 : (j : Int) ≥ (vn : Int) := by omega
            have HZ0 := Lib.hid ((HTZ.out j n hj4 (ptL_none (by have := HVL.out; omega)) HHN.out hn0).trans HQ0.out.symm)
            have HVI := Lib.hid hvi
            have a0 := (HI7.out.old hvi.bel).cell 0
            clear hvi hn HHN e0 e1 hnE
            gi_upto_region 14 with (first | (refine ⟨trivial, ?_⟩; gi_at_call 22; refine (callsIn_wide.2 (HO2.out _)).mono ?_; rintro e w5 ⟨A5, c5, D5, d5, rfl, l5, m5, n5, p5, hb5⟩; have kk := HVI.out.bx.old hb5; unfold rcells at kk; have u0 := kk.cell 0; have u1 := kk.cell 1; have u2 := kk.cell 2; have f0 := kk.frozen 0; have f1 := kk.frozen 1; have f2 := kk.frozen 2; have z0 := kk.lt))
            have hvi := HVI.out.put hb5 l5 m5 n5 p5
            rw [← HZ0.out] at hvi
            rw [← HZ0.out]
            clear kk u0 u1 u2 f0 f1 f2 z0 l5 m5 n5 p5 hb5 HVI a0 hix
            generalize ((w5.setCell ⟨g8, 0, none⟩ (.bool (decide ((tv 4).num < 0)))).setCell ⟨g8, 1, none⟩ (.slice A5 (dig (tv 4).num.natAbs).length c5)).setCell ⟨g8, 2, none⟩ (.slice D5 (dig (tv 4).den).length d5) = V at *
            have hsum := HI1.out.old hvi.bel
            have HAD := Lib.hid (RAdd_r s0 (tv 4) Ai ci Di di A5 c5 D5 d5 V.heap.size V (Nat.le_refl _) (RIn.made HI2.out HI3.out (HI4.out.old hvi.bel) (HI5.out.old hvi.bel)) (RIn.made hvi.l1 hvi.l2 hvi.n1 hvi.n2) HRS.out (HRL.out 4 (Nat.le_refl _)) (Nat.le_refl _) (Nat.le_refl _))
            unfold RatRes rvl at HAD
            obtain ⟨q', hq'⟩ : ∃ q', q' = s0 + tv 4 := ⟨_, rfl⟩
            rw [← hq'] at HAD
            have HQ' := Lib.hid hq'
            clear hq'
            have hvb := hvi.bx
            unfold rcells at hsum hvb
            have b0 := hsum.cell 0; have b1 := hsum.cell 1; have b2 := hsum.cell 2
            have v0 := hvb.cell 0; have v1 := hvb.cell 1; have v2 := hvb.cell 2
            have HSUM := Lib.hid hsum; have HVB := Lib.hid hvi
            clear hvi hsum hvb
            generalize tv 4 = t4 at *
            gi_wp2_with (first | (refine ⟨trivial, ?_⟩; gi_at_call 13; refine (callsIn_wide.2 HAD.out).mono ?_; rintro e w7 ⟨A7, c7, D7, d7, rfl, l7, m7, n7, p7, hb7⟩; have kk := HSUM.out.old hb7; have u0 := kk.cell 0; have u1 := kk.cell 1; have u2 := kk.cell 2; have f0 := kk.frozen 0; have f1 := kk.frozen 1; have f2 := kk.frozen 2; have z0 := kk.lt))
            have hB7 := HVB.out.bel.trans (hb7.mono HVB.out.bel.size)
            have hbt1 : w.heap.size ≠ bt := by omega
            have hbt2 : w.heap.size + 1 ≠ bt := by omega
            have hbt3 : w.heap.size ≤ bt := by omega
            exact ⟨(below_keepsP hB7).trans (((KeepsOthers.setCell _ _ _).from _).trans (((KeepsOthers.setCell _ _ _).from _).trans ((KeepsOthers.setCell _ _ _).from _))), (KT.old hB7).trans ((KT.set kk (by decide) (by decide) (by decide) _).trans ((KT.set (kk.set_ 0 _) (by decide) (by decide) (by decide) _).trans (KT.set ((kk.set_ 0 _).set_ 1 _) (by decide) (by decide) (by decide) _))),
              HEX2.out _ q' A7 c7 D7 d7 HQ'.out l7 m7 (NatB.keepTwo kk (by decide) _ _ _ n7) (NatB.keepTwo kk (by decide) _ _ _ p7) (((kk.set_ 0 _).set_ 1 _).set_ 2 _) ((((HI6.out.old hB7).far (p := ⟨bt, 0, none⟩) hbt2 _).far (p := ⟨bt, 1, none⟩) hbt2 _).far (p := ⟨bt, 2, none⟩) hbt2 _) ((((HI7.out.old hB7).far (p := ⟨bt, 0, none⟩) hbt1 _).far (p := ⟨bt, 1, none⟩) hbt1 _).far (p := ⟨bt, 2, none⟩) hbt1 _) ((((HI8.out.trans (hB7.mono HI8.out.size)).setCell (p := ⟨bt, 0, none⟩) hbt3 _).setCell (p := ⟨bt, 1, none⟩) hbt3 _).setCell (p := ⟨bt, 2, none⟩) hbt3 _)⟩
      · obtain rfl : j = 4 := by omega
        have hj4' : ¬ (((4 : Nat) : Int) < 4) := by omega
        clear e0 e1
        gi_upto_region 14 with (fail)
        have hsum := HI1.out.old hvi.bel
        have HAD := Lib.hid (RAdd_r s0 (tv 4) Ai ci Di di A4 c4 D4 d4 wr.heap.size wr (Nat.le_refl _) (RIn.made HI2.out HI3.out (HI4.out.old hvi.bel) (HI5.out.old hvi.bel)) (RIn.made hvi.l1 hvi.l2 hvi.n1 hvi.n2) HRS.out (HRL.out 4 (Nat.le_refl _)) (Nat.le_refl _) (Nat.le_refl _))
        unfold RatRes rvl at HAD
        obtain ⟨q', hq'⟩ : ∃ q', q' = s0 + tv 4 := ⟨_, rfl⟩
        rw [← hq'] at HAD
        have HQ' := Lib.hid hq'
        clear hq'
        have hvb := hvi.bx
        unfold rcells at hsum hvb
        have b0 := hsum.cell 0; have b1 := hsum.cell 1; have b2 := hsum.cell 2
        have v0 := hvb.cell 0; have v1 := hvb.cell 1; have v2 := hvb.cell 2
        have HSUM := Lib.hid hsum; have HVB := Lib.hid hvi
        clear hvi hsum hvb
        generalize tv 4 = t4 at *
        gi_wp2_with (first | (refine ⟨trivial, ?_⟩; gi_at_call 13; refine (callsIn_wide.2 HAD.out).mono ?_; rintro e w7 ⟨A7, c7, D7, d7, rfl, l7, m7, n7, p7, hb7⟩; have kk := HSUM.out.old hb7; have u0 := kk.cell 0; have u1 := kk.cell 1; have u2 := kk.cell 2; have f0 := kk.frozen 0; have f1 := kk.frozen 1; have f2 := kk.frozen 2; have z0 := kk.lt))
        have hB7 := HVB.out.bel.trans (hb7.mono HVB.out.bel.size)
        have hbt1 : w.heap.size ≠ bt := by omega
        have hbt2 : w.heap.size + 1 ≠ bt := by omega
        have hbt3 : w.heap.size ≤ bt := by omega
        exact ⟨(below_keepsP hB7).trans (((KeepsOthers.setCell _ _ _).from _).trans (((KeepsOthers.setCell _ _ _).from _).trans ((KeepsOthers.setCell _ _ _).from _))), (KT.old hB7).trans ((KT.set kk (by decide) (by decide) (by decide) _).trans ((KT.set (kk.set_ 0 _) (by decide) (by decide) (by decide) _).trans (KT.set ((kk.set_ 0 _).set_ 1 _) (by decide) (by decide) (by decide) _))),
          HEX2.out _ q' A7 c7 D7 d7 HQ'.out l7 m7 (NatB.keepTwo kk (by decide) _ _ _ n7) (NatB.keepTwo kk (by decide) _ _ _ p7) (((kk.set_ 0 _).set_ 1 _).set_ 2 _) ((((HI6.out.old hB7).far (p := ⟨bt, 0, none⟩) hbt2 _).far (p := ⟨bt, 1, none⟩) hbt2 _).far (p := ⟨bt, 2, none⟩) hbt2 _) ((((HI7.out.old hB7).far (p := ⟨bt, 0, none⟩) hbt1 _).far (p := ⟨bt, 1, none⟩) hbt1 _).far (p := ⟨bt, 2, none⟩) hbt1 _) ((((HI8.out.trans (hB7.mono HI8.out.size)).setCell (p := ⟨bt, 0, none⟩) hbt3 _).setCell (p := ⟨bt, 1, none⟩) hbt3 _).setCell (p := ⟨bt, 2, none⟩) hbt3 _)⟩
  case done =>
    rintro D ys W hD hS ⟨Ai, ci, Di, di, i1, i2, i3, i4, i5, i6, i7, i8⟩ hK
    have HEQ := Lib.hid (show evL (ptL vs) (ys.map PT.tm) = qf by rw [hS]; exact HEX.out qs HGD.out.cf)
    rw [HEQ.out] at i1 i2 i3 i4 i5
    unfold rcells at i1
    have c0' : W.cell? ⟨bt, 0, none⟩ = some (.bool (decide (qf.num < 0))) := i1.cell 0
    have c1' : W.cell? ⟨bt, 1, none⟩ = some (.slice Ai (dig qf.num.natAbs).length ci) := i1.cell 1
    have c2' : W.cell? ⟨bt, 2, none⟩ = some (.slice Di (dig qf.den).length di) := i1.cell 2
    have d0 : W.cell? ⟨w.heap.size + 1, 0, none⟩ = some (.bool false) := i6.cell 0
    have d1 : W.cell? ⟨w.heap.size + 1, 1, none⟩ = some (.slice none 0 0) := i6.cell 1
    have d2 : W.cell? ⟨w.heap.size + 1, 2, none⟩ = some (.slice none 0 0) := i6.cell 2
    have f0 := i6.frozen 0; have f1 := i6.frozen 1; have f2 := i6.frozen 2; have z0 := i6.lt
    have hDR : w.heap.size + 1 ≠ D := by have := hr.lt; omega
    have HK := Lib.hid hK
    have HF := Lib.hid (RatFin (q := qf) (w := w) (w2 := W) (g := w.heap.size + 1) (A := Ai) (D := Di) (c := ci) (cd := di) i6 (Nat.le_succ _) i2 i3 i4 i5 i8)
    have y6 : ((((W.setCell ⟨w.heap.size + 1, 0, none⟩ (.bool (decide (qf.num < 0)))).setCell ⟨w.heap.size + 1, 1, none⟩ (.slice Ai (dig qf.num.natAbs).length ci)).setCell ⟨w.heap.size + 1, 2, none⟩ (.slice Di (dig qf.den).length di))).heap[D]? = some (.deferred (some [])) :=
      (Below.heap_setCell _ ⟨w.heap.size + 1, 2, none⟩ _ D (Ne.symm hDR)).trans ((Below.heap_setCell _ ⟨w.heap.size + 1, 1, none⟩ _ D (Ne.symm hDR)).trans ((Below.heap_setCell _ ⟨w.heap.size + 1, 0, none⟩ _ D (Ne.symm hDR)).trans hK))
    have HY6 := Lib.hid y6
    clear hS i1 i2 i3 i4 i5 i6 i7 i8 hK y6
    gi_wp2
    have y6 := HY6.out
    have y7 := (World.putObj_heap_other (o := .deferred none) hDR).trans HF.out.1
    refine ⟨by simp, .inl ⟨_, _, rfl, run_takeDeferred y6, ?_⟩⟩
    refine ⟨_, results_cell_row Tryz.results9 _ _ (w.heap.size + 1) 33 _ (0, 0) _ rfl y7 Tryz.underlying33 rfl Tryz.sizeRat, ?_⟩
    obtain ⟨Aq, cq, Dq, dq, g1, g2, g3, g4, g5, g6⟩ := HF.out.2
    refine ⟨Aq, cq, Dq, dq, g1, g2, g3, ?_, ?_, ?_⟩
    · exact g4.keep fun k cs hb => (World.putObj_heap_other (fun e => by subst e; rw [show _ = _ from hb] at y6; cases y6)).trans hb
    · exact g5.keep fun k cs hb => (World.putObj_heap_other (fun e => by subst e; rw [show _ = _ from hb] at y6; cases y6)).trans hb
    · exact g6.trans (belowK_b (w := w) (Nat.le_refl _) _ D _ _ (by have := hb1.size; omega) y6 rfl rfl)
  case stop =>
    rintro D cc pre W _ _ h _
    exact h.elim
end Go.Proofs.YtpbapoanjkekmaaGreat
