/- Contract of integer.Pow. -/
import Derived.IntWalk
import Derived.WalkMore
import Derived.RegionTactic
import Derived.StillTailTactics
import Derived.Deep.RegionHeld3
import Derived.Deep.DeepCutAuto
import Derived.Lib.RabinKarpLaws
import Derived.Test.YtpbapoanjkekmaaGreatPA
import Derived.Test.YtpbapoanjkekmaaGreatZI
import Derived.Test.YtpbapoanjkekmaaGreatZG
import Derived.Test.YtpbapoanjkekmaaGreatZK
namespace Go.Proofs.YtpbapoanjkekmaaGreat
open Go.RowKit

/-- what the walk through 'result, square := ..' keeps -/
def IntS (Z : World) (b : Nat) (cs : Array Value) (w' : World) : Prop := Below Z.heap.size Z w' ∧ Blk w' b 31 cs
/-- behind it: two boxes of integers -/
def PowCut (Z : World) (b : Nat) (cs : Array Value) (fa fb : Int) (u v : Value) (wx : World) : Prop :=
  ∃ g g' A c A' c', u = .pointer (some ⟨g, 0, none⟩) ∧ v = .pointer (some ⟨g', 0, none⟩) ∧ g ≠ g' ∧ Z.heap.size ≤ g ∧ Z.heap.size ≤ g' ∧ Below Z.heap.size Z wx ∧ Blk wx b 31 cs ∧
    Blk wx g 31 #[.bool (decide (fa < 0)), .slice A (dig fa.natAbs).length c] ∧ Blk wx g' 31 #[.bool (decide (fb < 0)), .slice A' (dig fb.natAbs).length c'] ∧
    NatB wx A (dig fa.natAbs) ∧ NatB wx A' (dig fb.natAbs) ∧ (dig fa.natAbs).length ≤ c ∧ (dig fb.natAbs).length ≤ c'
theorem iblk_dr {V : World} {g : Nat} {t : TypeId} {cs : Array Value} (h : Blk V g t cs) : Blk V.drew g t cs := h
theorem ibx_new {V : World} {g : Nat} {t : TypeId} {cs : Array Value} (h : g = V.heap.size) : Blk (V.alloc (.cells cs t)) g t cs := by rw [h]; exact Blk.new V t cs
theorem icell {W w1 : World} (hb : Below W.heap.size W w1) : (∀ b o, b < W.heap.size → w1.cell? ⟨b, o, none⟩ = W.cell? ⟨b, o, none⟩) ∧ (∀ b o, b < W.heap.size → w1.frozen? ⟨b, o, none⟩ = W.frozen? ⟨b, o, none⟩) :=
  ⟨fun b o h => hb.cell (p := ⟨b, o, none⟩) h, fun b o h => hb.frozen (p := ⟨b, o, none⟩) h⟩
section
variable {Z V w' : World} {b g g' : Nat} {cs : Array Value} {fa fb : Int} {A20 A21 : Option Addr} {c20 c21 : Nat} {u v u' v' : Value}
theorem IntS.bel (h : IntS Z b cs V) : Below Z.heap.size Z V := h.1
theorem IntS.dr (h : IntS Z b cs V) : IntS Z b cs V.drew := ⟨h.1.trans (((Drawn.drew V).below V.heap.size).mono h.1.size), h.2⟩
theorem IntS.al (h : IntS Z b cs V) (o : Obj) : IntS Z b cs (V.alloc o) := ⟨h.1.alloc h.1.size o, h.2.alloc o⟩
theorem IntS.st (h : IntS Z b cs V) (hg : Z.heap.size ≤ g) (hn : b ≠ g) (i : Nat) (u : Value) : IntS Z b cs (V.setCell ⟨g, i, none⟩ u) := ⟨h.1.setCell (p := ⟨g, i, none⟩) hg u, h.2.far (p := ⟨g, i, none⟩) hn u⟩
theorem IntS.ca (h : IntS Z b cs V) (hb : Below V.heap.size V w') : IntS Z b cs w' := ⟨h.1.trans (hb.mono h.1.size), h.2.old hb⟩
theorem ibx_two {x y : Value} (h : Blk V g 31 #[x, y]) : Blk ((V.setCell ⟨g, 0, none⟩ u).setCell ⟨g, 1, none⟩ v) g 31 #[u, v] := by
  have := (h.set_ 0 u).set_ 1 v
  simpa using this
theorem ibx_far {t : TypeId} (h : Blk V g t cs) (hn : g ≠ g') : Blk ((V.setCell ⟨g', 0, none⟩ u).setCell ⟨g', 1, none⟩ v) g t cs := (h.far (p := ⟨g', 0, none⟩) hn u).far (p := ⟨g', 1, none⟩) hn v
theorem inb_far {A : Option Addr} {ds : List Nat} (h : NatB V A ds) (hb : Blk V g 31 cs) : NatB ((V.setCell ⟨g, 0, none⟩ u).setCell ⟨g, 1, none⟩ v) A ds :=
  h.keep fun g' cs' k => ibx_far k (k.ne_t hb (by decide))
theorem inb_al {A : Option Addr} {ds : List Nat} (h : NatB V A ds) (o : Obj) : NatB (V.alloc o) A ds := h.keep fun _ _ k => k.alloc o
variable (q : IntS Z b cs V) (y0 : NatB V A20 (dig fa.natAbs)) (y1 : NatB V A21 (dig fb.natAbs)) (x0 : (dig fa.natAbs).length ≤ c20) (x1 : (dig fb.natAbs).length ≤ c21)
include q y0 y1 x0 x1
theorem icut_1a :
    PowCut Z b cs fa fb (.pointer (some ⟨V.heap.size, 0, none⟩)) (.pointer (some ⟨V.heap.size + 1, 0, none⟩)) ((V.alloc (.cells #[.bool (decide (fa < 0)), .slice A20 (dig fa.natAbs).length c20] 31)).alloc (.cells #[.bool (decide (fb < 0)), .slice A21 (dig fb.natAbs).length c21] 31)) :=
  ⟨_, _, A20, c20, A21, c21, rfl, rfl, by omega, q.1.size, Nat.le_succ_of_le q.1.size, ((q.al _).al _).bel, ((q.al _).al _).2, (Blk.new _ _ _).alloc _, ibx_new (by simp), inb_al (inb_al y0 _) _, inb_al (inb_al y1 _) _, x0, x1⟩
theorem icut_1b :
    PowCut Z b cs fa fb (.pointer (some ⟨V.heap.size + 1, 0, none⟩)) (.pointer (some ⟨V.heap.size, 0, none⟩)) ((V.alloc (.cells #[.bool (decide (fb < 0)), .slice A21 (dig fb.natAbs).length c21] 31)).alloc (.cells #[.bool (decide (fa < 0)), .slice A20 (dig fa.natAbs).length c20] 31)) :=
  ⟨_, _, A20, c20, A21, c21, rfl, rfl, by omega, Nat.le_succ_of_le q.1.size, q.1.size, ((q.al _).al _).bel, ((q.al _).al _).2, ibx_new (by simp), (Blk.new _ _ _).alloc _, inb_al (inb_al y0 _) _, inb_al (inb_al y1 _) _, x0, x1⟩
theorem icut_2a (p : Blk V g 31 #[u, v]) (h1 : Z.heap.size ≤ g) (h2 : b ≠ g) :
    PowCut Z b cs fa fb (.pointer (some ⟨g, 0, none⟩)) (.pointer (some ⟨V.heap.size, 0, none⟩)) (((V.setCell ⟨g, 0, none⟩ (.bool (decide (fa < 0)))).setCell ⟨g, 1, none⟩ (.slice A20 (dig fa.natAbs).length c20)).alloc (.cells #[.bool (decide (fb < 0)), .slice A21 (dig fb.natAbs).length c21] 31)) :=
  ⟨_, _, A20, c20, A21, c21, rfl, rfl, Nat.ne_of_lt p.lt, h1, q.1.size, (((q.st h1 h2 _ _).st h1 h2 _ _).al _).bel, (((q.st h1 h2 _ _).st h1 h2 _ _).al _).2, (ibx_two p).alloc _, ibx_new (by simp), inb_al (inb_far y0 p) _, inb_al (inb_far y1 p) _, x0, x1⟩
theorem icut_2b (p : Blk V g 31 #[u, v]) (h1 : Z.heap.size ≤ g) (h2 : b ≠ g) :
    PowCut Z b cs fa fb (.pointer (some ⟨V.heap.size, 0, none⟩)) (.pointer (some ⟨g, 0, none⟩)) (((V.setCell ⟨g, 0, none⟩ (.bool (decide (fb < 0)))).setCell ⟨g, 1, none⟩ (.slice A21 (dig fb.natAbs).length c21)).alloc (.cells #[.bool (decide (fa < 0)), .slice A20 (dig fa.natAbs).length c20] 31)) :=
  ⟨_, _, A20, c20, A21, c21, rfl, rfl, Nat.ne_of_gt p.lt, q.1.size, h1, (((q.st h1 h2 _ _).st h1 h2 _ _).al _).bel, (((q.st h1 h2 _ _).st h1 h2 _ _).al _).2, ibx_new (by simp), (ibx_two p).alloc _, inb_al (inb_far y0 p) _, inb_al (inb_far y1 p) _, x0, x1⟩
theorem icut_3 (p : Blk V g 31 #[u, v]) (p' : Blk V g' 31 #[u', v']) (h1 : Z.heap.size ≤ g) (h2 : b ≠ g) (h1' : Z.heap.size ≤ g') (h2' : b ≠ g') (hn : g ≠ g') :
    PowCut Z b cs fa fb (.pointer (some ⟨g, 0, none⟩)) (.pointer (some ⟨g', 0, none⟩)) ((((V.setCell ⟨g, 0, none⟩ (.bool (decide (fa < 0)))).setCell ⟨g, 1, none⟩ (.slice A20 (dig fa.natAbs).length c20)).setCell ⟨g', 0, none⟩ (.bool (decide (fb < 0)))).setCell ⟨g', 1, none⟩ (.slice A21 (dig fb.natAbs).length c21)) :=
  ⟨_, _, A20, c20, A21, c21, rfl, rfl, hn, h1, h1', ((((q.st h1 h2 _ _).st h1 h2 _ _).st h1' h2' _ _).st h1' h2' _ _).bel, ((((q.st h1 h2 _ _).st h1 h2 _ _).st h1' h2' _ _).st h1' h2' _ _).2, ibx_far (ibx_two p) hn, ibx_two (ibx_far p' hn.symm), inb_far (inb_far y0 p) (ibx_far p' hn.symm), inb_far (inb_far y1 p) (ibx_far p' hn.symm), x0, x1⟩
end
/-- an integer handed back, and nothing of Z turned -/
def IntY (Z : World) (z : Int) (W : World) (e : Ending) (w' : World) : Prop :=
  ∃ A c, e = .returned (.agg #[.bool (decide (z < 0)), .slice A (dig z.natAbs).length c]) ∧ (dig z.natAbs).length ≤ c ∧ NatB w' A (dig z.natAbs) ∧ Below W.heap.size W w' ∧ Below Z.heap.size Z w'
theorem IntRes.y {Z : World} {z : Int} {W : World} {e : Ending} {w' : World} (hW : Below Z.heap.size Z W) (h : IntRes z W e w') : IntY Z z W e w' := by
  obtain ⟨A, c, h1, h2, h3, h4⟩ := h
  exact ⟨A, c, h1, h2, h3, h4, hW.trans (h4.mono hW.size)⟩
theorem ret_blkT {P : Program} {fn : Func} {Q : Ending → World → Prop} {a : Act} {w : World} {p r : Tmp} {ty : TypeId} {g : Nat} {t : TypeId} {cs : Array Value} {d : TypeDesc} (hr : fn.results = #[.cell p ty, .tmp r]) (hdf : a.defers = []) (hp : a.tmps.getD p undef = .pointer (some ⟨g, 0, none⟩)) (hb : Blk w g t cs)
    (hu : P.underlying ty = some d) (hd : (match d with | .struct _ | .array _ _ => true | _ => false) = true) (hi : (P.info? ty).map (·.size) = some cs.size) (h : Q (.returned (.tuple #[.agg cs, a.tmps.getD r undef])) w) : bodyPost P fn Q Exit.ret a w := by
  refine bodyPost_ret ?_ hdf h
  have hp' : a.tmps[p]?.getD undef = .pointer (some ⟨g, 0, none⟩) := by simpa using hp
  simp [results, hr, hp', asAddr, run_loadVar_row w g t ty cs (0, 0) d hb hu hd hi]
/-! ### powers -/
theorem pow_len {z : Int} {L : Nat} (h : z.natAbs < 4294967296 ^ L) (i : Nat) : (dig (z ^ i).natAbs).length ≤ L * i + 1 := by
  refine dig_len_lt ?_
  have h1 : z.natAbs ^ i ≤ (4294967296 ^ L) ^ i := Nat.pow_le_pow_left (Nat.le_of_lt h) i
  rw [Int.natAbs_pow, Nat.pow_succ, Nat.pow_mul]
  have : 0 < (4294967296 ^ L) ^ i := Nat.pow_pos (Nat.pow_pos (by decide))
  omega
/-- what Pow returns -/
def PowRes (z : Int) (w : World) (e : Ending) (w' : World) : Prop :=
  ∃ A c, e = .returned (.tuple #[.agg #[.bool (decide (z < 0)), .slice A (dig z.natAbs).length c], .int .i64 0]) ∧ (dig z.natAbs).length ≤ c ∧ NatB w' A (dig z.natAbs) ∧ Below w.heap.size w w'
/-- between two rounds: result is z^i, square is z^j -/
structure PowSt (w wr : World) (g g' : Nat) (z : Int) (n i j m : Nat) : Prop where
  bel : Below w.heap.size w wr
  out : Blk wr (w.heap.size + 1) 31 #[.bool false, .slice none 0 0]
  ge : w.heap.size + 1 < g
  ge' : w.heap.size + 1 < g'
  ne : g ≠ g'
  r : ∃ A c, Blk wr g 31 #[.bool (decide (z ^ i < 0)), .slice A (dig (z ^ i).natAbs).length c] ∧ NatB wr A (dig (z ^ i).natAbs) ∧ (dig (z ^ i).natAbs).length ≤ c
  s : ∃ A c, Blk wr g' 31 #[.bool (decide (z ^ j < 0)), .slice A (dig (z ^ j).natAbs).length c] ∧ NatB wr A (dig (z ^ j).natAbs) ∧ (dig (z ^ j).natAbs).length ≤ c
  eq : i + j * m = n
  pos : 0 < j
theorem PowSt.mulr {w wr w4 : World} {g g' n i j m : Nat} {z : Int} {A : Option Addr} {c : Nat} (h : PowSt w wr g g' z n i j (m + 1)) (hb : Below wr.heap.size wr w4) (hn : NatB w4 A (dig (z ^ i * z ^ j).natAbs)) (hl : (dig (z ^ i * z ^ j).natAbs).length ≤ c) :
    PowSt w ((w4.setCell ⟨g, 0, none⟩ (.bool (decide (z ^ i * z ^ j < 0)))).setCell ⟨g, 1, none⟩ (.slice A (dig (z ^ i * z ^ j).natAbs).length c)) g g' z n (i + j) j m := by
  obtain ⟨A1, c1, r1, r2, r3⟩ := h.r
  obtain ⟨A2, c2, s1, s2, s3⟩ := h.s
  have b1 := r1.old hb
  refine ⟨((h.bel.trans (hb.mono h.bel.size)).setCell (p := ⟨g, 0, none⟩) (show w.heap.size ≤ g from Nat.le_of_lt (Nat.lt_of_succ_lt h.ge)) _).setCell (p := ⟨g, 1, none⟩) (show w.heap.size ≤ g from Nat.le_of_lt (Nat.lt_of_succ_lt h.ge)) _,
    ibx_far (h.out.old hb) (Nat.ne_of_lt h.ge), h.ge, h.ge', h.ne, ⟨A, c, ?_, ?_, ?_⟩, ⟨A2, c2, ibx_far (s1.old hb) h.ne.symm, inb_far (s2.old hb) b1, s3⟩, ?_, h.pos⟩
  · rw [Int.pow_add]; exact ibx_two b1
  · rw [Int.pow_add]; exact inb_far hn b1
  · rw [Int.pow_add]; exact hl
  · have := h.eq
    rw [Nat.mul_succ] at this
    omega
theorem PowSt.muls {w wr w4 : World} {g g' n i j m : Nat} {z : Int} {A : Option Addr} {c : Nat} (h : PowSt w wr g g' z n i j (2 * m)) (hb : Below wr.heap.size wr w4) (hn : NatB w4 A (dig (z ^ j * z ^ j).natAbs)) (hl : (dig (z ^ j * z ^ j).natAbs).length ≤ c) :
    PowSt w ((w4.setCell ⟨g', 0, none⟩ (.bool (decide (z ^ j * z ^ j < 0)))).setCell ⟨g', 1, none⟩ (.slice A (dig (z ^ j * z ^ j).natAbs).length c)) g g' z n i (j + j) m := by
  obtain ⟨A1, c1, r1, r2, r3⟩ := h.r
  obtain ⟨A2, c2, s1, s2, s3⟩ := h.s
  have b1 := s1.old hb
  refine ⟨((h.bel.trans (hb.mono h.bel.size)).setCell (p := ⟨g', 0, none⟩) (show w.heap.size ≤ g' from Nat.le_of_lt (Nat.lt_of_succ_lt h.ge')) _).setCell (p := ⟨g', 1, none⟩) (show w.heap.size ≤ g' from Nat.le_of_lt (Nat.lt_of_succ_lt h.ge')) _,
    ibx_far (h.out.old hb) (Nat.ne_of_lt h.ge'), h.ge, h.ge', h.ne, ⟨A1, c1, ibx_far (r1.old hb) h.ne, inb_far (r2.old hb) b1, r3⟩, ⟨A, c, ?_, ?_, ?_⟩, ?_, by have := h.pos; omega⟩
  · rw [Int.pow_add]; exact ibx_two b1
  · rw [Int.pow_add]; exact inb_far hn b1
  · rw [Int.pow_add]; exact hl
  · have := h.eq
    rw [Nat.add_mul]
    rw [Nat.mul_left_comm] at this
    omega
/-- Mul of what lies in two boxes -/
theorem IMul_made (x y : Int) (A A' : Option Addr) (c c' : Nat) (w : World) (l : (dig x.natAbs).length + (dig y.natAbs).length ≤ 900000) (h1 : (dig x.natAbs).length ≤ c) (h2 : (dig y.natAbs).length ≤ c') (n1 : NatB w A (dig x.natAbs)) (n2 : NatB w A' (dig y.natAbs)) :
    Calls Tryz.prog 41 #[.agg #[.bool (decide (x < 0)), .slice A (dig x.natAbs).length c], .agg #[.bool (decide (y < 0)), .slice A' (dig y.natAbs).length c']] w (IntRes (x * y) w) := by
  have h := IMul_big (decide (x < 0)) (decide (y < 0)) A A' c c' w.heap.size (dig x.natAbs) (dig y.natAbs) w (Nat.le_refl _) (natB_nin n1 h1) (natB_nin n2 h2) l
  rw [ival_dig, ival_dig] at h
  exact h
theorem mul_le_of {L i j n m : Nat} (hm : 0 < m) (h : i + j * m = n) (hn : L * n ≤ 100000) : (L * i + 1) + (L * j + 1) ≤ 900000 := by
  have h1 : j ≤ j * m := Nat.le_mul_of_pos_right j hm
  have h2 : L * (i + j) ≤ L * n := Nat.mul_le_mul_left L (by omega)
  rw [Nat.mul_add] at h2
  omega
set_option maxHeartbeats 8000000 in
set_option maxRecDepth 100000 in
theorem IPow_any (ng : Bool) (A : Option Addr) (c B : Nat) (ds : List Nat) (n L : Nat) (w : World) (hB : B ≤ w.heap.size) (h : NatIn w B A c ds) (hl : ds.length ≤ L) (h0 : 0 < L) (hn : 0 < n) (hm : L * n ≤ 100000) :
    Calls Tryz.prog 78 #[.agg #[.bool ng, .slice A ds.length c], .int .i64 (n : Int)] w (PowRes (ival ng ds ^ n) w) := by
  have hLn : L ≤ L * n := Nat.le_mul_of_pos_right L hn
  have hnL : n ≤ L * n := Nat.le_mul_of_pos_left n h0
  obtain ⟨hb0, k0, k1, hs⟩ := boxes2 w 31 31 #[.bool ng, .slice A ds.length c] #[.bool false, .slice none 0 0]
  have HBT := Lib.hid (IBit_any ng A c B ds _ (Nat.le_trans hB hb0.size) (h.below (hb0.mono hB)) (by omega))
  have HN := Lib.hid (fun (W : World) (hW : Below w.heap.size w W) => INormal_any ng A c B ds W (Nat.le_trans hB hW.size) (h.below (hW.mono hB)) (by omega))
  have HO := Lib.hid (fun (W : World) => IOf_any 1 (by omega) (by omega) W)
  have HLT := Lib.hid (show (ival ng ds).natAbs < 4294967296 ^ L by
    rw [ival_abs]
    exact Nat.lt_of_lt_of_le (val_lt h.dg) (Nat.pow_le_pow_right (by decide) hl))
  have HKN := Lib.hid (fun (k : Nat) (hk : k ≤ 32 * ds.length) => show k * n ≤ 3200000 by
    have h1 : k * n ≤ 32 * L * n := Nat.mul_le_mul_right n (Nat.le_trans hk (Nat.mul_le_mul_left 32 hl))
    rw [Nat.mul_assoc] at h1
    omega)
  have hdl : ds.length ≤ 100000 := by omega
  have hn1 : n ≤ 100000 := by omega
  have HLM := Lib.hid (And.intro hm h0)
  have HB0 := Lib.hid hb0; have HK0 := Lib.hid k0; have HK1 := Lib.hid k1
  generalize ival ng ds = z at *
  clear h hb0 k0 k1 hs hl hm h0 hLn hnL hB
  generalize ds.length = dl at *
  go_enter Tryz.func78, Tryz.ntmps78
  have i1 : ¬ ((n : Int) < 0) := by omega
  go_wp2_with fail
  go_step3
  go_wp2_with fail
  generalize (w.alloc (.cells #[.bool ng, .slice A dl c] 31)).alloc (.cells #[.bool false, .slice none 0 0] 31) = W0 at *
  refine HBT.out.mono ?_
  rintro e w1 ⟨k, rfl, hk, hb1⟩
  have hkn := HKN.out k hk
  have hm64 := mul64_any k n (by omega) (by omega) (by omega) w1
  have HM := Lib.hid hm64
  have i2 : k ≤ 3200000 := by omega
  have HJ0 := Lib.hid (HK0.out.old hb1); have HJ1 := Lib.hid (HK1.out.old hb1)
  have HB1 := Lib.hid (HB0.out.trans (hb1.mono HB0.out.size))
  have HG1 := Lib.hid (show w.heap.size + 1 < w1.heap.size from HJ1.out.lt)
  clear hb1 hm64 HBT HK0 HK1 HB0 HKN hk
  generalize hP : k * n = P at *
  have i3 : ¬ (16777216 < (P : Int)) := by omega
  clear hP
  go_wp2_with fail
  refine HM.out.mono ?_
  rintro e w1' ⟨rfl, rfl⟩
  go_wp2_with fail
  have hz1 : ∀ W, Below w1.heap.size w1 W → Below w.heap.size w W := fun W hW => HB1.out.trans (hW.mono HB1.out.size)
  have D0 := Lib.hid (fun (W : World) (hW : Below w1.heap.size w1 W) => (HO.out W).mono fun _ _ h => IntRes.y hW h)
  have D1 := Lib.hid (fun (W : World) (hW : Below w1.heap.size w1 W) => (HN.out W (hz1 W hW)).mono fun _ _ h => IntRes.y hW h)
  unfold IntY at D0 D1
  have hg1 := HG1.out
  clear hz1 HO HN
  generalize hone : (1 : Int) = one at D0
  have HONE := Lib.hid hone
  clear hone
  go_cut [8, 9] (fun u v wx => PowCut w1 w.heap.size #[.bool ng, .slice A dl c] one z u v wx)
  case first =>
    obtain ⟨CS, q0, KF, hCS⟩ : ∃ CS, IntS w1 w.heap.size CS w1.drew ∧ Hid (∀ V, IntS w1 w.heap.size CS V → IntS w1 w.heap.size CS V ∧ V.cell? ⟨w.heap.size, 0, none⟩ = some (.bool ng) ∧ V.cell? ⟨w.heap.size, 1, none⟩ = some (.slice A dl c)) ∧ Hid (CS = #[.bool ng, .slice A dl c]) :=
      ⟨#[.bool ng, .slice A dl c], ⟨(Drawn.drew _).below _, HJ0.out⟩, Lib.hid (fun V h => ⟨h, h.2.cell 0, h.2.cell 1⟩), Lib.hid rfl⟩
    have q00 : IntS w1 w.heap.size CS w1 := ⟨Below.refl _ _, q0.2⟩
    have hx1 : w1.heap.size ≤ w1.drew.heap.size := Nat.le_refl _
    go_region_held3 (fun w' => IntS w1 w.heap.size CS w' ∧ w'.cell? ⟨w.heap.size, 0, none⟩ = some (.bool ng) ∧ w'.cell? ⟨w.heap.size, 1, none⟩ = some (.slice A dl c))
      ((refine KF.out _ ?_; repeat (first | (with_reducible exact q21) | (with_reducible exact q20) | (with_reducible exact q0) | (with_reducible exact q00) | (with_reducible refine IntS.dr ?_) | (with_reducible refine IntS.al ?_ _) | (with_reducible refine IntS.st ?_ ?_ ?_ _ _; rotate_left; omega; omega))))
      (first
        | (go_at_call 19; (with_reducible refine (D0.out _ (IntS.bel (b := w.heap.size) (cs := CS) ?_)).mono ?_); (repeat (first | (with_reducible exact q0) | (with_reducible exact q00) | (with_reducible refine IntS.dr ?_) | (with_reducible refine IntS.al ?_ _))); rintro e w20 ⟨A20, c20, rfl, x20, y20, z20, f20⟩; (have s20 := z20.size); (try simp at s20); (try (have t1 : w1.heap.size < w20.heap.size := by omega)); (try (have t2 : w1.heap.size + 1 < w20.heap.size := by omega)); (obtain ⟨hc20, hf20⟩ := icell z20); (try (have p1 : Blk w20 w1.heap.size 31 #[.bool false, .slice none 0 0] := Blk.old (by first | (with_reducible exact iblk_dr (Blk.new _ _ _)) | (with_reducible exact iblk_dr (Blk.alloc (Blk.new _ _ _) _))) z20)); (try (have p2 : Blk w20 (w1.heap.size + 1) 31 #[.bool false, .slice none 0 0] := Blk.old (by with_reducible exact iblk_dr (ibx_new (World.size_alloc _ _).symm)) z20)); (have q20 : IntS w1 w.heap.size CS w20 := IntS.ca (by repeat (first | (with_reducible exact q0) | (with_reducible exact q00) | (with_reducible refine IntS.dr ?_) | (with_reducible refine IntS.al ?_ _))) z20))
        | (go_at_call 45; (with_reducible refine (D1.out _ (IntS.bel (b := w.heap.size) (cs := CS) ?_)).mono ?_); (repeat (first | (with_reducible exact q20) | (with_reducible refine IntS.al ?_ _) | (with_reducible refine IntS.st ?_ ?_ ?_ _ _; rotate_left; omega; omega))); rintro e w21 ⟨A21, c21, rfl, x21, y21, z21, f21⟩; (have s21 := z21.size); (try simp at s21); (try (have t3 : w1.heap.size < w21.heap.size := by omega)); (try (have t4 : w1.heap.size + 1 < w21.heap.size := by omega)); (try (have t5 : w20.heap.size < w21.heap.size := by omega)); (try (have t6 : w20.heap.size + 1 < w21.heap.size := by omega)); (obtain ⟨hc21, hf21⟩ := icell z21); (try (have p3 : Blk w21 w1.heap.size 31 #[.bool false, .slice none 0 0] := Blk.old (by first | (with_reducible exact p1) | (with_reducible exact Blk.alloc p1 _)) z21)); (try (have p4 : Blk w21 (w1.heap.size + 1) 31 #[.bool false, .slice none 0 0] := Blk.old (by with_reducible exact p2) z21)); (try (have p5 : Blk w21 w20.heap.size 31 #[.bool false, .slice none 0 0] := Blk.old (by first | (with_reducible exact Blk.new _ _ _) | (with_reducible exact Blk.alloc (Blk.new _ _ _) _)) z21)); (try (have p6 : Blk w21 (w20.heap.size + 1) 31 #[.bool false, .slice none 0 0] := Blk.old (by with_reducible exact ibx_new (World.size_alloc _ _).symm) z21)); (have y20' : NatB w21 A20 (dig one.natAbs) := NatB.old (by first | (with_reducible exact y20) | (with_reducible exact inb_al y20 _) | (with_reducible exact inb_al (inb_al y20 _) _)) z21); (have q21 : IntS w1 w.heap.size CS w21 := IntS.ca (by repeat (first | (with_reducible exact q20) | (with_reducible refine IntS.al ?_ _) | (with_reducible refine IntS.st ?_ ?_ ?_ _ _; rotate_left; omega; omega))) z21)))
    all_goals go_wp2_with fail
    all_goals go_meet
    all_goals clear D0 D1 hc20 hf20 hc21 hf21 KF
    all_goals rw [← hCS.out]
    all_goals first | (with_reducible exact icut_1a q21 y20' y21 x20 x21) | (with_reducible exact icut_1b q21 y20' y21 x20 x21) | (with_reducible refine icut_2a q21 y20' y21 x20 x21 p5 ?_ ?_ <;> omega) | (with_reducible refine icut_2b q21 y20' y21 x20 x21 p5 ?_ ?_ <;> omega) | (with_reducible refine icut_2a q21 y20' y21 x20 x21 p3 ?_ ?_ <;> omega) | (with_reducible refine icut_2b q21 y20' y21 x20 x21 p3 ?_ ?_ <;> omega) | (with_reducible refine icut_2a q21 y20' y21 x20 x21 p4 ?_ ?_ <;> omega) | (with_reducible refine icut_2b q21 y20' y21 x20 x21 p4 ?_ ?_ <;> omega) | (with_reducible refine icut_2a q21 y20' y21 x20 x21 p6 ?_ ?_ <;> omega) | (with_reducible refine icut_2b q21 y20' y21 x20 x21 p6 ?_ ?_ <;> omega) | (with_reducible refine icut_3 q21 y20' y21 x20 x21 p3 p4 ?_ ?_ ?_ ?_ ?_ <;> omega) | (with_reducible refine icut_3 q21 y20' y21 x20 x21 p4 p3 ?_ ?_ ?_ ?_ ?_ <;> omega) | (with_reducible refine icut_3 q21 y20' y21 x20 x21 p5 p6 ?_ ?_ ?_ ?_ ?_ <;> omega) | (with_reducible refine icut_3 q21 y20' y21 x20 x21 p6 p5 ?_ ?_ ?_ ?_ ?_ <;> omega) | (with_reducible refine icut_3 q21 y20' y21 x20 x21 p3 p5 ?_ ?_ ?_ ?_ ?_ <;> omega) | (with_reducible refine icut_3 q21 y20' y21 x20 x21 p5 p3 ?_ ?_ ?_ ?_ ?_ <;> omega)
  case rest =>
    obtain ⟨g, g', A1, c1, A2, c2, rfl, rfl, hne, hge, hge', hbc, hkb, hkg, hkg', n1, n2, l1, l2⟩ := hcut
    have HST := Lib.hid (show PowSt w wc g g' z n 0 1 n from ⟨HB1.out.trans (hbc.mono HB1.out.size), HJ1.out.old hbc, by omega, by omega, hne,
      ⟨A1, c1, by rw [Int.pow_zero]; have := HONE.out; subst this; exact ⟨hkg, n1, l1⟩⟩, ⟨A2, c2, by rw [Int.pow_one]; exact ⟨hkg', n2, l2⟩⟩, by omega, by omega⟩)
    clear hbc hkb hkg hkg' n1 n2 l1 l2 D0 D1 HJ0 HJ1 HB1 HONE hne hge hge'
    go_wp2_with fail
    go_step3
    go_wp2_with fail
    go_loopg [1] n (fun gn nv wr => ∃ (i j m : Nat), gn = m ∧ nv = .int .i64 (m : Int) ∧ 0 < m ∧ m ≤ n ∧ PowSt w wr g g' z n i j m)
    case atStart => exact ⟨0, 1, n, rfl, rfl, hn, Nat.le_refl _, HST.out⟩
    case round =>
      clear HST
      obtain ⟨i, j, m, hgm, rfl, hm0, hmn, hst⟩ := hrel
      have HG := Lib.hid hgm; have HST := Lib.hid hst
      clear hgm hst
      have hbit := and_one m (by omega)
      go_upto_if 34 with (fail)
      go_cut [35] (fun _ wc => ∃ i', PowSt w wc g g' z n i' j (2 * (m / 2)))
      case first =>
        by_cases hodd : m % 2 = 1
        · have hst : PowSt w wr g g' z n i j (2 * (m / 2) + 1) := by
            rw [show 2 * (m / 2) + 1 = m by omega]
            exact HST.out
          obtain ⟨A1, c1, r1, r2, r3⟩ := hst.r
          obtain ⟨A2, c2, s1, s2, s3⟩ := hst.s
          have HM := Lib.hid (IMul_made (z ^ i) (z ^ j) A1 A2 c1 c2 wr (Nat.le_trans (Nat.add_le_add (pow_len HLT.out i) (pow_len HLT.out j)) (mul_le_of (m := 2 * (m / 2) + 1) (by omega) hst.eq HLM.out.1)) r3 s3 r2 s2)
          unfold IntRes at HM
          have HE := Lib.hid (fun (w4 : World) (A : Option Addr) (c : Nat) hb hn hl => hst.mulr (w4 := w4) (A := A) (c := c) hb hn hl)
          have HR1 := Lib.hid r1
          rw [hodd] at hbit
          have hbit' : bits BinOp.and IntKind.i64 (m : Int) 1 = 1 := hbit
          generalize z ^ i * z ^ j = zz at *
          generalize z ^ i = zi at *
          generalize z ^ j = zj at *
          have a0 := r1.cell 0; have a1 := r1.cell 1; have b0 := s1.cell 0; have b1 := s1.cell 1
          clear hst r1 r2 r3 s1 s2 s3 HST HLM HLT hbit
          go_wp2_with fail
          refine HM.out.mono ?_
          rintro e w4 ⟨A4, c4, rfl, l4, n4, hb4⟩
          have kk := HR1.out.old hb4
          have d0 : w4.cell? ⟨g, 0, none⟩ = some (.bool (decide (zi < 0))) := kk.cell 0
          have d1 : w4.cell? ⟨g, 1, none⟩ = some (.slice A1 (dig zi.natAbs).length c1) := kk.cell 1
          have f0 := kk.frozen 0; have f1 := kk.frozen 1; have z0 := kk.lt
          have HF := Lib.hid (HE.out w4 A4 c4 hb4 n4 l4)
          clear kk hb4 n4 l4 HE HM HR1
          go_wp2_with fail
          go_meet
          case rel => exact ⟨_, HF.out⟩
        · have hev : m % 2 = 0 := by omega
          rw [hev] at hbit
          have hbit' : bits BinOp.and IntKind.i64 (m : Int) 1 = 0 := hbit
          have HF := Lib.hid (show PowSt w wr g g' z n i j (2 * (m / 2)) by rw [show 2 * (m / 2) = m by omega]; exact HST.out)
          clear hbit HST
          go_wp2_with fail
          go_meet
          case rel => exact ⟨_, HF.out⟩
      case rest =>
        clear HST hbit
        obtain ⟨i', hst⟩ := hcut
        obtain ⟨h, hh⟩ : ∃ h, h = m / 2 := ⟨_, rfl⟩
        rw [← hh] at hst
        have hdiv : (m : Int) / 2 = (h : Int) := by omega
        have hhm : 2 * h ≤ m := by omega
        clear hh
        by_cases h0 : h = 0
        · subst h0
          have hin : i' = n := by have := hst.eq; omega
          obtain ⟨A1, c1, r1, r2, r3⟩ := hst.r
          have ho := hst.out
          have hbel := hst.bel
          rw [hin] at r1 r2 r3
          have HR2 := Lib.hid r2; have HR3 := Lib.hid r3; have HO := Lib.hid ho; have HBE := Lib.hid hbel
          generalize z ^ n = zn at *
          have a0 := r1.cell 0; have a1 := r1.cell 1; have d0 := ho.cell 0; have d1 := ho.cell 1; have f0 := ho.frozen 0; have f1 := ho.frozen 1; have z0 := ho.lt
          clear hst r1 r2 r3 ho hbel hin HLM HLT
          go_wp2_with fail
          rw [Exit.noGoto_ret]
          exact ret_blkT Tryz.results78 rfl rfl (ibx_two HO.out) Tryz.underlying31 rfl Tryz.sizeInt ⟨A1, c1, rfl, HR3.out, inb_far HR2.out HO.out, (HBE.out.setCell (p := ⟨w.heap.size + 1, 0, none⟩) (Nat.le_succ _) _).setCell (p := ⟨w.heap.size + 1, 1, none⟩) (Nat.le_succ _) _⟩
        · have hh0 : ((h : Int) == 0) = false := by simpa using h0
          obtain ⟨A2, c2, s1, s2, s3⟩ := hst.s
          have HM := Lib.hid (IMul_made (z ^ j) (z ^ j) A2 A2 c2 c2 wc (by
            have h1 := pow_len HLT.out j
            have h2 := mul_le_of (L := L) (m := 2 * h) (by omega) hst.eq HLM.out.1
            have h3 : j + j ≤ n := by have := hst.eq; have : j * 2 ≤ j * (2 * h) := Nat.mul_le_mul_left j (by omega); omega
            have h4 : L * (j + j) ≤ L * n := Nat.mul_le_mul_left L h3
            rw [Nat.mul_add] at h4
            have := HLM.out.1
            omega) s3 s3 s2 s2)
          unfold IntRes at HM
          have HE := Lib.hid (fun (w4 : World) (A : Option Addr) (c : Nat) hb hn hl => hst.muls (w4 := w4) (A := A) (c := c) hb hn hl)
          have HR1 := Lib.hid s1
          generalize z ^ j * z ^ j = zz at *
          generalize z ^ j = zj at *
          have b0 := s1.cell 0; have b1 := s1.cell 1
          clear hst s1 s2 s3
          go_wp2_with fail
          refine HM.out.mono ?_
          rintro e w4 ⟨A4, c4, rfl, l4, n4, hb4⟩
          have kk := HR1.out.old hb4
          have d0 : w4.cell? ⟨g', 0, none⟩ = some (.bool (decide (zj < 0))) := kk.cell 0
          have d1 : w4.cell? ⟨g', 1, none⟩ = some (.slice A2 (dig zj.natAbs).length c2) := kk.cell 1
          have f0 := kk.frozen 0; have f1 := kk.frozen 1; have z0 := kk.lt
          have HF := Lib.hid (HE.out w4 A4 c4 hb4 n4 l4)
          clear kk hb4 n4 l4 HE HM HR1
          go_wp2_with fail
          go_roundg h
          case rel => exact ⟨i', j + j, h, rfl, by go_num, by omega, by omega, HF.out⟩
          case measure => have := HG.out; omega
end Go.Proofs.YtpbapoanjkekmaaGreat
