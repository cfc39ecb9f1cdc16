/- Contract of natural.MulAdd. -/
import Derived.BigQuiet
import Derived.Test.YtnghlhcekghciaaGreatDoorZX
import Derived.Test.YtnghlhcekghciaaGreatDoorX8
import Derived.Test.YtnghlhcekghciaaGreatDoorZT
import Derived.Test.YtnghlhcekghciaaGreatDoorX6
import Derived.Test.YtnghlhcekghciaaGreatDoorZI
namespace Go.Proofs.YtnghlhcekghciaaGreatDoor
open Go.RowKit

/-- the digits below k are done, the carry is o -/
structure MAdd (zs : List Nat) (n k o V : Nat) : Prop where
  len : zs.length = n + 1
  dg : Dig zs
  zero : ∀ j, k ≤ j → zs.getD j 0 = 0
  sum : val zs + 4294967296 ^ k * o = V
  carry : o < 4294967296
theorem mAdd0 {n c : Nat} (hc : c < 4294967296) : MAdd (List.replicate (n + 1) 0) n 0 c c where
  len := by simp
  dg := fun d hd => by have := List.eq_of_mem_replicate hd; omega
  zero := fun j _ => by
    rw [List.getD_eq_getElem?_getD, List.getElem?_replicate]
    split <;> rfl
  sum := by rw [val_zeros]; simp
  carry := hc
theorem MAdd.step {zs : List Nat} {n k o V x m s o' : Nat} (h : MAdd zs n k o V) (hk : k < n) (hs : s < 4294967296) (ho : o' < 4294967296) (he : s + 4294967296 * o' = x * m + o) : MAdd (zs.set k s) n (k + 1) o' (V + 4294967296 ^ k * (x * m)) := by
  have hv := val_set (ds := zs) (k := k) (by rw [h.len]; omega) s
  rw [h.zero k (Nat.le_refl _), Nat.mul_zero, Nat.add_zero] at hv
  refine ⟨by simp [h.len], fun d hd => ?_, fun j hj => ?_, ?_, ho⟩
  · rcases List.mem_or_eq_of_mem_set hd with hd | rfl
    · exact h.dg d hd
    · exact hs
  · have := h.zero j (by omega)
    rw [List.getD_eq_getElem?_getD, List.getElem?_set_ne (by omega), ← List.getD_eq_getElem?_getD]
    exact this
  · have h0 := h.sum
    have e : 4294967296 ^ k * (s + 4294967296 * o') = 4294967296 ^ k * (x * m + o) := by rw [he]
    rw [Nat.mul_add, Nat.mul_add] at e
    have e1 : 4294967296 ^ (k + 1) * o' = 4294967296 ^ k * (4294967296 * o') := by rw [Nat.pow_succ, Nat.mul_assoc]
    omega
theorem MAdd.last {zs : List Nat} {n o V : Nat} (h : MAdd zs n n o V) : (zs.set n o).length = n + 1 ∧ Dig (zs.set n o) ∧ val (zs.set n o) = V := by
  have hv := val_set (ds := zs) (k := n) (by rw [h.len]; omega) o
  rw [h.zero n (Nat.le_refl _), Nat.mul_zero, Nat.add_zero] at hv
  refine ⟨by simp [h.len], fun d hd => ?_, by have := h.sum; omega⟩
  rcases List.mem_or_eq_of_mem_set hd with hd | rfl
  · exact h.dg d hd
  · exact h.carry
theorem madd_digits {x m o : Nat} (hx : x < 4294967296) (hm : m < 4294967296) (ho : o < 4294967296) :
    x * m / 4294967296 + (x * m % 4294967296 + o + 0) / 4294967296 < 4294967296 ∧ (x * m % 4294967296 + o + 0) % 4294967296 + 4294967296 * (x * m / 4294967296 + (x * m % 4294967296 + o + 0) / 4294967296) = x * m + o := by
  have := mul_bound hx hm
  generalize x * m = p at *
  omega

set_option maxHeartbeats 2000000 in
set_option maxRecDepth 100000 in
theorem MulAdd_any (A : Option Addr) (c B : Nat) (ds : List Nat) (m o : Nat) (w : World) (hB : B ≤ w.heap.size) (hc : ds.length ≤ c) (hl : ds.length ≤ 900000) (hm : m < 4294967296) (ho : o < 4294967296)
    (hr : Reads w B 1 A ds.length (u32s ds)) (hd : Dig ds) :
    Calls Tryz.prog 101 #[.slice A ds.length c, .int .u32 (m : Int), .int .u32 (o : Int)] w (NatRes (val ds * m + o) w) := by
  have h1 := trim_any A c B ds w hc (by omega) hr hd
  have r1 := reads_dig hr hd
  have l1 := dig_len_le hd
  have g1 := dig_dig (val ds)
  have v1 := val_dig (val ds)
  generalize val ds = x at *
  generalize dig x = a at *
  have H1 := Lib.hid h1; have G1 := Lib.hid g1; have V1 := Lib.hid v1
  clear h1 g1 v1 hr hd
  have hmk := fun (W : World) => Tryz.make_u32 (a.length + 1) (by omega) W
  rw [show ((a.length + 1 : Nat) : Int) = (a.length : Int) + 1 by omega] at hmk
  go_enter Tryz.func101, Tryz.ntmps101
  go_wp2_with fail
  refine (H1.out).mono ?_
  rintro e w1 ⟨rfl, rfl⟩
  go_wp2_with fail
  clear hmk
  have hbl0 : Below w.heap.size w (w.alloc (.cells (u32s (List.replicate (a.length + 1) 0)).toArray 39)) := (Below.refl _ w).alloc (Nat.le_refl _) _
  have hzb0 := Blk.new w 39 (u32s (List.replicate (a.length + 1) 0)).toArray
  go_loopg [2, 8, 9, 10, 11, 12, 21] a.length (fun gn ov _ _ _ _ _ ix wr => ∃ (k q : Nat) (zs : List Nat), k ≤ a.length ∧ gn = a.length - k ∧ ix = .int .i64 k ∧ ov = .int .u32 (q : Int) ∧ MAdd zs a.length k q (val (a.take k) * m + o) ∧ Blk wr w.heap.size 39 (u32s zs).toArray ∧ Below w.heap.size w wr)
  case atStart => exact ⟨0, o, _, Nat.zero_le _, rfl, rfl, rfl, by simpa [val] using mAdd0 ho, hzb0, hbl0⟩
  case round =>
    clear hzb0 hbl0
    obtain ⟨k, q, zs, hk, hgk, rfl, rfl, hst, hzb, hbl⟩ := hrel
    have HG := Lib.hid hgk; clear hgk
    have hcr := hst.carry
    by_cases hlt : k < a.length
    · obtain ⟨b1, o1, rfl, q1, c1⟩ := nat_at (r1.below (hbl.mono hB)) (k := k) hlt
      have hxa := dig_at G1.out k
      have HTA := Lib.hid (val_take_succ (ds := a) (k := k) hlt)
      have hzl : k < zs.length := by rw [hst.len]; omega
      have c3 : wr.cell? ⟨w.heap.size, k, none⟩ = some (.int .u32 ((zs.getD k 0 : Nat) : Int)) := (hzb.cell k).trans (u32s_at _ _ hzl)
      have f3 := hzb.frozen k
      generalize a.getD k 0 = xa at *
      obtain ⟨hd1, hd2⟩ := madd_digits hxa hm hcr
      have hmu := mul32_any xa m hxa hm
      have hlo : xa * m % 4294967296 < 4294967296 := Nat.mod_lt _ (by decide)
      have ha1 := add32_any (xa * m % 4294967296) q 0 hlo hcr (by omega)
      have hs1 : (xa * m % 4294967296 + q + 0) % 4294967296 < 4294967296 := Nat.mod_lt _ (by decide)
      have hN := hst.step (by omega) hs1 hd1 hd2
      generalize zs.getD k 0 = zk at *
      generalize (xa * m % 4294967296 + q + 0) % 4294967296 = s1 at *
      generalize (xa * m % 4294967296 + q + 0) / 4294967296 = k1 at *
      have hpe : 4294967296 ^ k * (xa * m) = 4294967296 ^ k * xa * m := (Nat.mul_assoc _ _ _).symm
      have HN := Lib.hid (show MAdd (zs.set k s1) a.length (k + 1) (xa * m / 4294967296 + k1) ((val (a.take k) + 4294967296 ^ k * xa) * m + o) by
        rw [Nat.add_mul, ← hpe, Nat.add_right_comm]; exact hN)
      rw [← HTA.out] at HN
      generalize xa * m % 4294967296 = lo at *
      generalize xa * m / 4294967296 = hi' at *
      have HMU := Lib.hid hmu; have HA1 := Lib.hid ha1
      clear hN hmu ha1 hst hd2 hpe
      have i2 : (k : Int) < a.length := by omega
      have i0 : (0 : Int) ≤ (k : Int) := by omega
      have i3 : (k : Int) < (a.length : Int) + 1 := by omega
      have z1 := hzb.lt
      go_wp2_with fail
      refine (HMU.out _).mono ?_
      rintro e w1 ⟨rfl, rfl⟩
      go_wp2_with fail
      refine (HA1.out _).mono ?_
      rintro e w1 ⟨rfl, rfl⟩
      go_wp2_with fail
      go_roundg (a.length - (k + 1))
      case rel =>
        refine ⟨k + 1, hi' + k1, zs.set k s1, by omega, rfl, by go_num, by go_num, HN.out, ?_, hbl.setCell (Nat.le_refl _) _⟩
        rw [← u32s_set]; exact hzb.set_ k _
      case measure => have := HG.out; omega
    · obtain rfl : k = a.length := by omega
      rw [List.take_length, V1.out] at hst
      have hzl : a.length < zs.length := by rw [hst.len]; omega
      have c3 : wr.cell? ⟨w.heap.size, a.length, none⟩ = some (.int .u32 ((zs.getD a.length 0 : Nat) : Int)) := (hzb.cell a.length).trans (u32s_at _ _ hzl)
      have f3 := hzb.frozen a.length
      obtain ⟨e1, e2, e3⟩ := hst.last
      have hzb2 : Blk (wr.setCell ⟨w.heap.size, a.length, none⟩ (.int .u32 (q : Int))) w.heap.size 39 (u32s (zs.set a.length q)).toArray := by rw [← u32s_set]; exact hzb.set_ a.length _
      have hbl2 := hbl.setCell (p := ⟨w.heap.size, a.length, none⟩) (Nat.le_refl _) (.int .u32 (q : Int))
      have z1 := hzb.lt
      generalize zs.getD a.length 0 = zk at *
      generalize zs.set a.length q = ys at *
      have hrd := hzb2.reads ys.length (Nat.le_refl _)
      rw [List.take_length] at hrd
      have htr := trim_any (some ⟨w.heap.size, 0, none⟩) (a.length + 1) _ ys _ (by omega) (by omega) hrd e2
      have hrd2 := (NatB.of_blk hzb2).dig e2
      have hll := dig_len_le e2
      rw [e3, e1] at htr
      rw [e3] at hrd2 hll
      generalize hV : x * m + o = V at *
      have HTR := Lib.hid htr; have HRD := Lib.hid hrd2; have HLL := Lib.hid (Nat.le_trans hll (by rw [e1]; exact Nat.le_refl _) : (dig V).length ≤ a.length + 1)
      have HB := Lib.hid hbl2
      clear htr hrd2 hll hrd hst hzb hzb2 hbl2 e1 e2 e3 hV
      have i3 : (a.length : Int) < (a.length : Int) + 1 := by omega
      go_wp2_with fail
      refine (HTR.out).mono ?_
      rintro e w5 ⟨rfl, rfl⟩
      go_wp2_with fail
      go_ret
      exact ⟨_, _, rfl, HLL.out, HRD.out, HB.out⟩
end Go.Proofs.YtnghlhcekghciaaGreatDoor

/- Contracts of decimal.digit and decimal.split; plain words for decimal.parse. -/
namespace Go.Proofs.YtnghlhcekghciaaGreatDoor
open Go.RowKit

def digV (c : Nat) : Nat := if 48 ≤ c ∧ c ≤ 57 then c - 48 else if 97 ≤ c ∧ c ≤ 122 then c - 87 else 36
set_option maxHeartbeats 1000000 in
theorem digit_any (c : Nat) (hc : c ≤ 255) (w : World) : Calls Tryz.prog 100 #[.int .u8 (c : Int)] w fun e w' => e = .returned (.int .u32 (digV c : Int)) ∧ w = w' := by
  by_cases h : 48 ≤ c ∧ c ≤ 57
  · have HE : digV c = c - 48 := if_pos h
    rw [HE]
    rcases (by omega : c = 48 ∨ c = 49 ∨ c = 50 ∨ c = 51 ∨ c = 52 ∨ c = 53 ∨ c = 54 ∨ c = 55 ∨ c = 56 ∨ c = 57) with rfl | rfl | rfl | rfl | rfl | rfl | rfl | rfl | rfl | rfl
    all_goals
      clear h HE hc
      go_enter Tryz.func100, Tryz.ntmps100
      go_wp2
      go_ret
      exact ⟨rfl, rfl⟩
  · have e0 : ((c : Int) == 48) = false := by simp; omega
    have e1 : ((c : Int) == 49) = false := by simp; omega
    have e2 : ((c : Int) == 50) = false := by simp; omega
    have e3 : ((c : Int) == 51) = false := by simp; omega
    have e4 : ((c : Int) == 52) = false := by simp; omega
    have e5 : ((c : Int) == 53) = false := by simp; omega
    have e6 : ((c : Int) == 54) = false := by simp; omega
    have e7 : ((c : Int) == 55) = false := by simp; omega
    have e8 : ((c : Int) == 56) = false := by simp; omega
    have e9 : ((c : Int) == 57) = false := by simp; omega
    by_cases h1 : 97 ≤ c
    · have f1 : (97 : Int) ≤ (c : Int) := by omega
      by_cases h2 : c ≤ 122
      · have f2 : (c : Int) ≤ 122 := by omega
        have HE := Lib.hid (show (digV c : Int) = (c : Int) - 97 + 10 by unfold digV; rw [if_neg h, if_pos ⟨h1, h2⟩]; omega)
        clear h
        go_enter Tryz.func100, Tryz.ntmps100
        go_wp2
        go_ret
        exact ⟨by rw [HE.out]; rfl, rfl⟩
      · have f2 : ¬ (c : Int) ≤ 122 := by omega
        have HE := Lib.hid (show digV c = 36 by unfold digV; rw [if_neg h, if_neg (by omega)])
        clear h
        go_enter Tryz.func100, Tryz.ntmps100
        go_wp2
        go_ret
        exact ⟨by rw [HE.out]; rfl, rfl⟩
    · have f1 : ¬ (97 : Int) ≤ (c : Int) := by omega
      have HE := Lib.hid (show digV c = 36 by unfold digV; rw [if_neg h, if_neg (by omega)])
      clear h
      go_enter Tryz.func100, Tryz.ntmps100
      go_wp2
      go_ret
      exact ⟨by rw [HE.out]; rfl, rfl⟩
/-- the sign of a text, the rest -/
def sgnB (s : Bs) : Bool := s.head? == some 45
def sgnR (s : Bs) : Bs := if sgnB s then s.tail else s
theorem Tryz.str_first (b : UInt8) (r : Bs) (W : World) : (Instr.index 9 (.string ⟨(b :: r).toArray⟩) (.int .i64 0)).run Tryz.prog W = .ok (.int .u8 (b.toNat : Int)) W := Tryz.str_at (b :: r) 0 (by simp) W
theorem Tryz.str_rest (b : UInt8) (r : Bs) (W : World) : (Instr.slice 9 (.string ⟨(b :: r).toArray⟩) (some (.int .i64 1)) none none).run Tryz.prog W = .ok (.string ⟨r.toArray⟩) W := by
  have e : (⟨(b :: r).toArray⟩ : ByteArray).extract 1 (r.length + 1) = ⟨r.toArray⟩ := by
    apply ByteArray.ext
    rw [ByteArray.data_extract]
    apply Array.ext'
    simp
  simp [Instr.slice, run_underlying Tryz.underlying9, go_sem]
  rw [if_pos (by omega), e]
theorem split_any (s : Bs) (w : World) (hm : s.length ≤ 1000000) : Calls Tryz.prog 99 #[.string ⟨s.toArray⟩] w fun e w' => e = .returned (.tuple #[.bool (sgnB s), .string ⟨(sgnR s).toArray⟩]) ∧ Drawn w w' := by
  cases s with
  | nil =>
    go_enter Tryz.func99, Tryz.ntmps99
    go_wp2
    go_ret2
    exact ⟨rfl, Drawn.refl _⟩
  | cons b r =>
    have hix := fun (W : World) => Tryz.str_first b r W
    have hsl := fun (W : World) => Tryz.str_rest b r W
    by_cases hb : b = 45
    · subst hb
      rw [show ((45 : UInt8).toNat : Int) = 45 from rfl] at hix
      have hrl : (r.length : Int) ≤ 1000000 := by simp at hm; omega
      go_enter Tryz.func99, Tryz.ntmps99
      go_wp2_with fail
      go_quiet (fail)
      go_wp2_with fail
      go_ret2
      exact ⟨rfl, Drawn.drewN _ _⟩
    · have hbb : ((b.toNat : Int) == 45) = false := by
        simp only [beq_eq_false_iff_ne, ne_eq]
        intro e
        exact hb (UInt8.toNat_inj.1 (by have : (45 : UInt8).toNat = 45 := rfl; omega))
      have HE := Lib.hid (show sgnB (b :: r) = false ∧ sgnR (b :: r) = b :: r by
        have : sgnB (b :: r) = false := by simp [sgnB, hb]
        exact ⟨this, by unfold sgnR; rw [this]; rfl⟩)
      rw [HE.out.1, HE.out.2]
      have hrl : (r.length : Int) ≤ 1000000 := by simp at hm; omega
      generalize b.toNat = c at *
      clear HE hb
      go_enter Tryz.func99, Tryz.ntmps99
      go_wp2_with fail
      go_ret2
      exact ⟨rfl, Drawn.refl _⟩

/-- a text in decimal: the digits of no leading zero -/
def decOk (ng : Bool) (d : Bs) : Bool := !d.isEmpty && !(d.head? == some 48 && (ng || decide (1 < d.length))) && d.all fun c => decide (48 ≤ c.toNat ∧ c.toNat ≤ 57)
def decP (s : Bs) : Option Int := if decOk (sgnB s) (sgnR s) then some (if sgnB s then -(decV (sgnR s) : Int) else (decV (sgnR s) : Int)) else none
theorem digV_dig {c : Nat} (h : 48 ≤ c ∧ c ≤ 57) : digV c = c - 48 := if_pos h
theorem digV_not {c : Nat} (h : ¬ (48 ≤ c ∧ c ≤ 57)) : 10 ≤ digV c := by
  unfold digV
  rw [if_neg h]
  split <;> omega
theorem decV_take {l : Bs} {k : Nat} (h : k < l.length) : decV (l.take (k + 1)) = decV (l.take k) * 10 + ((l.getD k 0).toNat - 48) := by
  rw [List.take_succ_eq_append_getElem h, decV_snoc, List.getD_eq_getElem?_getD, List.getElem?_eq_getElem h]
  rfl
theorem foldl_dec (l : Bs) : ∀ a, l.foldl (fun a c => a * 10 + (c.toNat - 48)) a = a * 10 ^ l.length + decV l := by
  induction l with
  | nil => intro a; simp [decV]
  | cons c l ih =>
    intro a
    have e : decV (c :: l) = (c.toNat - 48) * 10 ^ l.length + decV l := by rw [decV, List.foldl_cons, ih]; simp
    rw [List.foldl_cons, ih, e, List.length_cons, Nat.pow_succ, Nat.add_mul, Nat.mul_assoc a 10, Nat.mul_comm 10, Nat.add_assoc]
theorem decV_append (a b : Bs) : decV (a ++ b) = decV a * 10 ^ b.length + decV b := by
  rw [decV, List.foldl_append, foldl_dec]
  rfl
theorem decV_lt {l : Bs} (h : l.all (fun c => decide (48 ≤ c.toNat ∧ c.toNat ≤ 57)) = true) : decV l < 10 ^ l.length := by
  induction l with
  | nil => simp [decV]
  | cons c l ih =>
    rw [List.all_cons, Bool.and_eq_true, decide_eq_true_eq] at h
    have ih := ih h.2
    rw [show c :: l = [c] ++ l from rfl, decV_append, List.length_append, List.length_singleton, Nat.pow_add]
    have e : decV [c] ≤ 9 := by simp [decV]; omega
    have := Nat.mul_le_mul_right (10 ^ l.length) e
    omega
end Go.Proofs.YtnghlhcekghciaaGreatDoor

/- Contract of decimal.Parse: exactly the decimal texts of integers are read. -/
namespace Go.Proofs.YtnghlhcekghciaaGreatDoor
open Go.RowKit

theorem results_cell_tmp {P : Program} {fn : Func} {p q : Tmp} {ty : TypeId} (h : fn.results = #[.cell p ty, .tmp q]) (tmps : Array Value) (w : World) (g : Nat) (t : TypeId) (cs : Array Value) (fr : Nat × Nat) (d : TypeDesc)
    (hp : tmps.getD p undef = .pointer (some ⟨g, 0, none⟩)) (hg : w.heap[g]? = some (.cells cs t fr))
    (hu : P.underlying ty = some d) (hd : (match d with | .struct _ | .array _ _ => true | _ => false) = true) (hi : (P.info? ty).map (·.size) = some cs.size) :
    (results fn tmps).run P w = .ok (.tuple #[.agg cs, tmps.getD q undef]) w := by
  have hp' : tmps[p]?.getD undef = .pointer (some ⟨g, 0, none⟩) := by simpa using hp
  simp [results, h, hp', asAddr, run_loadVar_row w g t ty cs fr d hg hu hd hi]
theorem ret_blk2 {P : Program} {fn : Func} {Q : Ending → World → Prop} {a : Act} {w : World} {p q : Tmp} {ty : TypeId} {g : Nat} {t : TypeId} {cs : Array Value} {d : TypeDesc} (hr : fn.results = #[.cell p ty, .tmp q]) (hdf : a.defers = []) (hp : a.tmps.getD p undef = .pointer (some ⟨g, 0, none⟩)) (hb : Blk w g t cs)
    (hu : P.underlying ty = some d) (hd : (match d with | .struct _ | .array _ _ => true | _ => false) = true) (hi : (P.info? ty).map (·.size) = some cs.size) (h : Q (.returned (.tuple #[.agg cs, a.tmps.getD q undef])) w) : bodyPost P fn Q Exit.ret a w :=
  bodyPost_ret (results_cell_tmp hr a.tmps w g t cs (0, 0) d hp hb hu hd hi) hdf h

/-- how Parse ends -/
def ParseRes (o : Option Int) (w : World) (e : Ending) (w' : World) : Prop :=
  ((o = none ∧ e = .returned (.tuple #[.agg #[.bool false, .slice none 0 0], .int .i64 6])) ∨
    ∃ z, o = some z ∧ ∃ A c, e = .returned (.tuple #[.agg #[.bool (decide (z < 0)), .slice A (dig z.natAbs).length c], .int .i64 0]) ∧ (dig z.natAbs).length ≤ c ∧ NatB w' A (dig z.natAbs)) ∧ Below w.heap.size w w'
theorem str_drop_ext (l : Bs) (n : Nat) : (⟨l.toArray⟩ : ByteArray).extract n l.length = ⟨(l.drop n).toArray⟩ := by
  apply ByteArray.ext
  rw [ByteArray.data_extract]
  apply Array.ext'
  simp [List.take_of_length_le]
theorem Tryz.str_drop (l : Bs) (n : Nat) (h : n ≤ l.length) (W : World) : (Instr.slice 9 (.string ⟨l.toArray⟩) (some (.int .i64 (n : Int))) none none).run Tryz.prog W = .ok (.string ⟨(l.drop n).toArray⟩) W := by
  simp [Instr.slice, run_underlying Tryz.underlying9, go_sem]
  rw [if_pos (by omega), str_drop_ext]
theorem pow_le_big (p : Nat) : 10 ^ p ≤ 4294967296 ^ p := Nat.pow_le_pow_left (by decide) p

def isd (c : UInt8) : Bool := decide (48 ≤ c.toNat ∧ c.toNat ≤ 57)
theorem all_step {D : Bs} {i : Nat} (hi : i < D.length) (h : (D.take i).all isd = true) (hc : isd (D.getD i 0) = true) : (D.take (i + 1)).all isd = true := by
  rw [List.take_succ_eq_append_getElem hi, List.all_append, h, Bool.true_and, List.all_cons, List.all_nil, Bool.and_true]
  rwa [List.getD_eq_getElem?_getD, List.getElem?_eq_getElem hi] at hc
theorem all_bad {D : Bs} {i : Nat} (hi : i < D.length) (hc : isd (D.getD i 0) = false) : D.all isd = false := by
  rw [List.all_eq_false]
  refine ⟨D.getD i 0, ?_, by rw [hc]; simp⟩
  rw [List.getD_eq_getElem?_getD, List.getElem?_eq_getElem hi]
  exact List.getElem_mem hi
theorem dec_small {D : Bs} (h : D.all isd = true) {p : Nat} (hp : p ≤ D.length) : (dig (decV (D.take p))).length ≤ p := by
  have h1 := decV_lt (l := D.take p) (List.all_eq_true.2 fun x hx => List.all_eq_true.1 h x (List.mem_of_mem_take hx))
  rw [List.length_take, Nat.min_eq_left hp] at h1
  exact dig_len_lt (Nat.lt_of_lt_of_le h1 (pow_le_big p))
theorem isd_at {D : Bs} (h : D.all isd = true) {i : Nat} (hi : i < D.length) : 48 ≤ (D.getD i 0).toNat ∧ (D.getD i 0).toNat ≤ 57 := by
  have := List.all_eq_true.1 h (D.getD i 0) (by rw [List.getD_eq_getElem?_getD, List.getElem?_eq_getElem hi]; exact List.getElem_mem hi)
  simpa [isd] using this
theorem dec_lt_pow {D : Bs} (h : D.all isd = true) {p : Nat} (hp : p ≤ D.length) : decV (D.take p) < 10 ^ p := by
  have h1 := decV_lt (l := D.take p) (List.all_eq_true.2 fun x hx => List.all_eq_true.1 h x (List.mem_of_mem_take hx))
  rwa [List.length_take, Nat.min_eq_left hp] at h1
theorem pow9 {i : Nat} (h : i ≤ 9) : 10 ^ i ≤ 1000000000 := Nat.pow_le_pow_right (n := 10) (by decide) h
theorem dec_part {D : Bs} (h : D.all isd = true) {i : Nat} (hi : i ≤ 8) : 10 ^ i ≤ 100000000 ∧ decV (D.take i) < 100000000 := by
  have h1 : 10 ^ i ≤ 10 ^ 8 := Nat.pow_le_pow_right (n := 10) (by decide) hi
  refine ⟨h1, ?_⟩
  have h2 := decV_lt (l := D.take i) (List.all_eq_true.2 fun x hx => List.all_eq_true.1 h x (List.mem_of_mem_take hx))
  have h3 : 10 ^ (D.take i).length ≤ 10 ^ 8 := Nat.pow_le_pow_right (n := 10) (by decide) (by rw [List.length_take]; omega)
  omega
theorem dec_join (D : Bs) (p n : Nat) (hn : n ≤ (D.drop p).length) : decV (D.take (p + n)) = decV (D.take p) * 10 ^ n + decV ((D.drop p).take n) := by
  have e : D.take (p + n) = D.take p ++ (D.drop p).take n := by rw [List.take_add]
  rw [e, decV_append, List.length_take, Nat.min_eq_left hn]

set_option maxHeartbeats 4000000 in
set_option maxRecDepth 100000 in
theorem parse_any (s : Bs) (w : World) (hm : s.length ≤ 100000) : Calls Tryz.prog 76 #[.string ⟨s.toArray⟩, .int .i64 10] w (ParseRes (decP s) w) := by
  have hbl0 := (Below.refl w.heap.size w).alloc (Nat.le_refl _) (.cells #[.bool false, .slice none 0 0] 43)
  have hblk := Blk.new w 43 #[.bool false, .slice none 0 0]
  have HSP := Lib.hid (fun (W : World) => split_any s W (by omega))
  have hrl : (sgnR s).length ≤ s.length := by unfold sgnR; split <;> simp
  have HPS := Lib.hid (show decP s = if decOk (sgnB s) (sgnR s) then some (if sgnB s then -(decV (sgnR s) : Int) else (decV (sgnR s) : Int)) else none from rfl)
  generalize decP s = o at *
  generalize sgnB s = ng at *
  generalize sgnR s = d at *
  have hm' : d.length ≤ 100000 := by omega
  have HBL := Lib.hid hbl0; have HBK := Lib.hid hblk
  clear hbl0 hblk hrl
  go_enter Tryz.func76, Tryz.ntmps76
  go_wp2_with fail
  refine (HSP.out _).mono ?_
  rintro e w1 ⟨rfl, hdr⟩
  have hk1 := HBK.out.drawn hdr
  have hb1 := HBL.out.trans (hdr.below _)
  clear hdr
  cases d with
  | nil =>
    have HE := Lib.hid (show o = none by rw [HPS.out]; simp [decOk])
    have d0 : w1.cell? ⟨w.heap.size, 0, none⟩ = some (.bool false) := (hk1.cell 0).trans rfl
    have d1 : w1.cell? ⟨w.heap.size, 1, none⟩ = some (.slice none 0 0) := (hk1.cell 1).trans rfl
    have f0 := hk1.frozen 0
    have f1 := hk1.frozen 1
    have z0 := hk1.lt
    go_wp2_with fail
    exact ret_blk2 Tryz.results76 rfl rfl ((hk1.set_ 0 _).set_ 1 _) Tryz.underlying43 rfl Tryz.sizeInt ⟨.inl ⟨HE.out, rfl⟩, (hb1.setCell (Nat.le_refl _) _).setCell (Nat.le_refl _) _⟩
  | cons b r =>
    have hne : (b :: r : Bs).isEmpty = false := rfl
    have hix := fun (W : World) => Tryz.str_first b r W
    have hdl : (b :: r).length = r.length + 1 := rfl
    have HOK := Lib.hid (fun (h : decOk ng (b :: r) = false) => show o = none by rw [HPS.out, h]; rfl)
    have HLD := Lib.hid (show b = 48 → (ng = true ∨ 0 < r.length) → decOk ng (b :: r) = false from fun hb h => by
      subst hb
      rcases h with h | h
      · simp [decOk, h]
      · cases r with
        | nil => simp at h
        | cons x y => simp [decOk])
    have HBD := Lib.hid (show (b :: r).all isd = false → decOk ng (b :: r) = false from fun h => by
      unfold decOk
      rw [show ((b :: r).all fun c => decide (48 ≤ c.toNat ∧ c.toNat ≤ 57)) = false from h, Bool.and_false])
    have HGD := Lib.hid (show (b :: r).all isd = true → ¬ (b = 48 ∧ (ng = true ∨ 0 < r.length)) → decOk ng (b :: r) = true from fun h hn => by
      unfold decOk
      rw [show ((b :: r).all fun c => decide (48 ≤ c.toNat ∧ c.toNat ≤ 57)) = true from h, Bool.and_true]
      by_cases hb : b = 48
      · have h1 : ¬ (ng = true) := fun e => hn ⟨hb, .inl e⟩
        have h2 : ¬ 0 < r.length := fun e => hn ⟨hb, .inr e⟩
        have h3 : r = [] := by
          cases r with
          | nil => rfl
          | cons x y => exact absurd (by simp) h2
        subst h3
        simp [hb, h1]
      · simp [hb])
    generalize hD : b :: r = D at *
    clear hD
    by_cases hb48 : b = 48
    · subst hb48
      rw [show ((48 : UInt8).toNat : Int) = 48 from rfl] at hix
      cases hng : ng with
      | true =>
        subst hng
        clear hdl
        have HE := Lib.hid (HOK.out (HLD.out rfl (.inl rfl)))
        have d0 : w1.cell? ⟨w.heap.size, 0, none⟩ = some (.bool false) := (hk1.cell 0).trans rfl
        have d1 : w1.cell? ⟨w.heap.size, 1, none⟩ = some (.slice none 0 0) := (hk1.cell 1).trans rfl
        have f0 := hk1.frozen 0
        have f1 := hk1.frozen 1
        have z0 := hk1.lt
        go_wp2_with fail
        exact ret_blk2 Tryz.results76 rfl rfl ((hk1.set_ 0 _).set_ 1 _) Tryz.underlying43 rfl Tryz.sizeInt ⟨.inl ⟨HE.out, rfl⟩, (hb1.setCell (Nat.le_refl _) _).setCell (Nat.le_refl _) _⟩
      | false =>
        subst hng
        by_cases hr0 : 0 < r.length
        · have k0 : (1 : Int) < (D.length : Int) := by omega
          clear hdl
          have HE := Lib.hid (HOK.out (HLD.out rfl (.inr hr0)))
          have d0 : w1.cell? ⟨w.heap.size, 0, none⟩ = some (.bool false) := (hk1.cell 0).trans rfl
          have d1 : w1.cell? ⟨w.heap.size, 1, none⟩ = some (.slice none 0 0) := (hk1.cell 1).trans rfl
          have f0 := hk1.frozen 0
          have f1 := hk1.frozen 1
          have z0 := hk1.lt
          go_wp2_with fail
          exact ret_blk2 Tryz.results76 rfl rfl ((hk1.set_ 0 _).set_ 1 _) Tryz.underlying43 rfl Tryz.sizeInt ⟨.inl ⟨HE.out, rfl⟩, (hb1.setCell (Nat.le_refl _) _).setCell (Nat.le_refl _) _⟩
        · have k0 : ¬ (1 : Int) < (D.length : Int) := by omega
          clear hdl
          have HGO := Lib.hid (fun h => HGD.out h (fun h => by rcases h.2 with h | h; cases h; exact hr0 h))
          have HS := Lib.hid (fun i => @all_step D i)
          have HB2 := Lib.hid (fun i => @all_bad D i)
          go_wp2_with fail
          go_loopg [8] D.length (fun gn ix wr => ∃ i : Nat, i ≤ D.length ∧ gn = D.length - i ∧ ix = .int .i64 i ∧ (D.take i).all isd = true ∧ w1 = wr)
          case atStart => exact ⟨0, Nat.zero_le _, rfl, rfl, rfl, rfl⟩
          case round =>
            obtain ⟨i, hi, hgi, rfl, hall, rfl⟩ := hrel
            have HG := Lib.hid hgi; have HAL := Lib.hid hall
            clear hgi hall hix hne
            by_cases hlt : i < D.length
            · have hxi := fun (W : World) => Tryz.str_at D i hlt W
              have HST := Lib.hid (HS.out i hlt)
              have HBI := Lib.hid (HB2.out i hlt)
              have hc := (D.getD i 0).toNat_lt
              have i1 : (i : Int) < (D.length : Int) := by omega
              have i0 : (0 : Int) ≤ (i : Int) := by omega
              unfold isd at HST HBI
              generalize (D.getD i 0).toNat = c at *
              have HDG := Lib.hid (fun (W : World) => digit_any c (by omega) W)
              by_cases hcd : 48 ≤ c ∧ c ≤ 57
              · rw [digV_dig hcd] at HDG
                have k1 : ((c - 48 : Nat) : Int) < 10 := by omega
                have HN := Lib.hid (HST.out HAL.out (by simpa using hcd))
                generalize c - 48 = x at *
                clear hcd
                go_wp2_with fail
                refine (HDG.out _).mono ?_
                rintro e w' ⟨rfl, rfl⟩
                go_wp2_with fail
                go_roundg (D.length - (i + 1))
                case rel => exact ⟨i + 1, by omega, rfl, by go_num, HN.out, rfl⟩
                case measure => have := HG.out; omega
              · have k1 : (10 : Int) ≤ (digV c : Int) := by have := digV_not hcd; omega
                have HE := Lib.hid (HOK.out (HBD.out (HBI.out (by simpa using hcd))))
                have d0 : w1.cell? ⟨w.heap.size, 0, none⟩ = some (.bool false) := (hk1.cell 0).trans rfl
                have d1 : w1.cell? ⟨w.heap.size, 1, none⟩ = some (.slice none 0 0) := (hk1.cell 1).trans rfl
                have f0 := hk1.frozen 0
                have f1 := hk1.frozen 1
                have z0 := hk1.lt
                generalize digV c = x at *
                clear hcd
                go_wp2_with fail
                refine (HDG.out _).mono ?_
                rintro e w' ⟨rfl, rfl⟩
                go_wp2_with fail
                exact ret_blk2 Tryz.results76 rfl rfl ((hk1.set_ 0 _).set_ 1 _) Tryz.underlying43 rfl Tryz.sizeInt ⟨.inl ⟨HE.out, rfl⟩, (hb1.setCell (Nat.le_refl _) _).setCell (Nat.le_refl _) _⟩
            · obtain rfl : i = D.length := by omega
              rw [List.take_length] at HAL
              have HO := Lib.hid (HGO.out HAL.out)
              have HCH := Lib.hid (fun W => chunk_ten W)
              go_wp2_with fail
              refine (HCH.out _).mono ?_
              rintro e w' ⟨rfl, rfl⟩
              go_wp2_with fail
              go_loopg [7, 11, 12, 13, 14, 15] D.length (fun gn dv vv _ _ _ _ wr => ∃ (p : Nat) (A : Option Addr) (c : Nat), p ≤ D.length ∧ gn = D.length - p ∧ dv = .string ⟨(D.drop p).toArray⟩ ∧ vv = .slice A (dig (decV (D.take p))).length c ∧ (dig (decV (D.take p))).length ≤ c ∧ NatB wr A (dig (decV (D.take p))) ∧ Blk wr w.heap.size 43 #[.bool false, .slice none 0 0] ∧ Below w.heap.size w wr)
              case atStart => exact ⟨0, none, 0, Nat.zero_le _, rfl, rfl, by rw [List.take_zero]; simp [decV, dig_zero], by rw [List.take_zero]; simp [decV, dig_zero], .inl (by rw [List.take_zero]; simp [decV, dig_zero]), hk1, hb1⟩
              case round =>
                clear hk1 hb1
                obtain ⟨p, Av, cv, hp, hgp, rfl, rfl, hcv, hnb, hk2, hb2⟩ := hrel
                have HGP := Lib.hid hgp
                clear hgp
                have hz2 := hb2.size
                have HVL := Lib.hid (dec_small HAL.out hp)
                have hvl : (dig (decV (D.take p))).length ≤ 100000 := by have := HVL.out; omega
                by_cases hlt2 : p < D.length
                · have HLL := Lib.hid (show (D.drop p).length = D.length - p from List.length_drop)
                  have HLA := Lib.hid (show (D.drop p).all isd = true from List.all_eq_true.2 fun x hx => List.all_eq_true.1 HAL.out x (List.mem_of_mem_drop hx))
                  have hrd := hnb.reads
                  have HJ := Lib.hid (fun n (hn : n ≤ (D.drop p).length) => dec_join D p n hn)
                  have HMA := Lib.hid (fun m o hm ho => MulAdd_any Av cv wr.heap.size (dig (decV (D.take p))) m o wr (Nat.le_refl _) hcv (by omega) hm ho hrd (dig_dig _))
                  have HDD := Lib.hid (fun n => show (D.drop p).drop n = D.drop (p + n) by rw [List.drop_drop])
                  have HVD := Lib.hid (val_dig (decV (D.take p)))
                  generalize dig (decV (D.take p)) = es at *
                  generalize decV (D.take p) = v at *
                  generalize hL : D.drop p = L at *
                  clear hL hrd hnb
                  obtain ⟨n, hn9, hnL, hn0, hmin⟩ : ∃ n : Nat, n ≤ 9 ∧ n ≤ L.length ∧ 0 < n ∧ (min 9 (L.length : Int)) = (n : Int) := ⟨min 9 L.length, by omega, by omega, by have := HLL.out; omega, by omega⟩
                  have hL0 : (0 : Int) < (L.length : Int) := by have := HLL.out; omega
                  have hL1 : (L.length : Int) ≤ 100000 := by have := HLL.out; omega
                  have HMN := Lib.hid hmin
                  clear hmin
                  go_wp2_with fail
                  rw [HMN.out, show decide (0 < L.length) = true by rw [decide_eq_true_eq]; have := HLL.out; omega]
                  have HP0 := Lib.hid (show ((10 ^ 0 : Nat) : Int) = 1 ∧ ((decV (L.take 0) : Nat) : Int) = 0 by simp [decV])
                  go_loopg [13, 14, 15] n (fun gn fv pv iv wx => ∃ i : Nat, i ≤ n ∧ gn = n - i ∧ iv = .int .i64 i ∧ fv = .int .u32 ((10 ^ i : Nat) : Int) ∧ pv = .int .u32 ((decV (L.take i) : Nat) : Int) ∧ wr = wx)
                  case atStart => exact ⟨0, Nat.zero_le _, rfl, rfl, by rw [HP0.out.1], by rw [HP0.out.2], rfl⟩
                  case round =>
                    obtain ⟨i, hi, hgi, rfl, rfl, rfl, rfl⟩ := hrel
                    have HGI := Lib.hid hgi
                    clear hgi
                    by_cases hlt3 : i < n
                    · have hxi := fun (W : World) => Tryz.str_at L i (by omega) W
                      have hc := (L.getD i 0).toNat_lt
                      have hcd := isd_at HLA.out (show i < L.length by omega)
                      have HDG := Lib.hid (fun (W : World) => digit_any (L.getD i 0).toNat (by omega) W)
                      rw [digV_dig hcd] at HDG
                      have HNX := Lib.hid (decV_take (l := L) (k := i) (by omega))
                      have hsm := dec_part HLA.out (show i ≤ 8 by omega)
                      have HPW := Lib.hid (show (10 ^ (i + 1) : Nat) = 10 ^ i * 10 from Nat.pow_succ 10 i)
                      generalize (L.getD i 0).toNat = ch at *
                      generalize hfi : (10 ^ i : Nat) = f at *
                      generalize decV (L.take i) = q at *
                      generalize hq2e : decV (L.take (i + 1)) = q2 at *
                      generalize hf2e : (10 ^ (i + 1) : Nat) = f2 at *
                      have HQE := Lib.hid hq2e; have HFE := Lib.hid hf2e
                      clear hq2e hf2e
                      obtain ⟨hf1, hf2⟩ := hsm
                      have m1 : (f : Int) * 10 ≤ 1000000000 := by omega
                      have m0 : (0 : Int) ≤ (f : Int) * 10 := by omega
                      have m2 : (q : Int) * 10 ≤ 1000000000 := by omega
                      have m3 : (0 : Int) ≤ (q : Int) * 10 := by omega
                      have m4 : (q : Int) * 10 + ((ch - 48 : Nat) : Int) ≤ 1000000009 := by omega
                      have i1 : (i : Int) < (n : Int) := by omega
                      have i2 : (i : Int) < (L.length : Int) := by omega
                      have i0 : (0 : Int) ≤ (i : Int) := by omega
                      have HQ2 := Lib.hid (show (q2 : Int) = (q : Int) * 10 + ((ch - 48 : Nat) : Int) by have := HNX.out; omega)
                      have HF2 := Lib.hid (show (f2 : Int) = (f : Int) * 10 by have := HPW.out; omega)
                      generalize ch - 48 = dg at *
                      clear hfi hcd
                      go_wp2_with fail
                      refine (HDG.out _).mono ?_
                      rintro e w' ⟨rfl, rfl⟩
                      go_wp2_with fail
                      go_roundg (n - (i + 1))
                      case rel => exact ⟨i + 1, by omega, rfl, by go_num, by rw [HFE.out, HF2.out], by rw [HQE.out, HQ2.out], rfl⟩
                      case measure => have := HGI.out; omega
                    · obtain rfl : i = n := by omega
                      have hp10 := pow9 hn9
                      have hsm2 := dec_lt_pow HLA.out (show i ≤ L.length by omega)
                      have HMC := Lib.hid (HMA.out (10 ^ i) (decV (L.take i)) (by omega) (by omega))
                      rw [HVD.out, ← HJ.out i (by omega)] at HMC
                      have hsd := fun (W : World) => Tryz.str_drop L i (by omega) W
                      rw [HDD.out i] at hsd
                      generalize (10 ^ i : Nat) = f at *
                      generalize decV (L.take i) = q at *
                      have i2 : (i : Int) ≤ (L.length : Int) := by omega
                      have i0 : (0 : Int) ≤ (i : Int) := by omega
                      generalize hV2 : dig (decV (D.take (p + i))) = fs at *
                      unfold NatRes at HMC
                      rw [hV2] at HMC
                      have HV2 := Lib.hid hV2
                      clear hV2
                      go_wp2_with fail
                      refine HMC.out.mono ?_
                      rintro e w5 ⟨A5, c5, rfl, h1, h2, h3⟩
                      have hk5 := hk2.old h3
                      have hb5 := hb2.trans (h3.mono hz2)
                      clear h3
                      generalize hL2 : D.drop (p + i) = L2 at *
                      have HL2 := Lib.hid hL2
                      clear hL2
                      go_wp2_with fail
                      go_roundg (D.length - (p + i))
                      case rel => exact ⟨p + i, A5, c5, by have := HLL.out; omega, rfl, by rw [HL2.out], by rw [HV2.out], by rw [HV2.out]; exact h1, by rw [HV2.out]; exact h2, hk5, hb5⟩
                      case measure => have := HGP.out; have := HLL.out; omega
                · obtain rfl : p = D.length := by omega
                  rw [List.drop_length]
                  rw [List.take_length] at hcv hnb hvl HVL ⊢
                  have HFR := Lib.hid (From_any false Av cv wr.heap.size (dig (decV D)) wr (Nat.le_refl _) hcv (by omega) hnb.reads (dig_dig _))
                  have HZ := Lib.hid (show o = some (ival false (dig (decV D))) by
                    rw [HPS.out, HO.out]
                    unfold ival
                    rw [val_dig]
                    simp)
                  generalize ival false (dig (decV D)) = z at *
                  generalize dig (decV D) = es at *
                  unfold IntRes at HFR
                  clear hnb
                  go_wp2_with fail
                  refine HFR.out.mono ?_
                  rintro e w5 ⟨A5, c5, rfl, h1, h2, h3⟩
                  have hk5 := hk2.old h3
                  have hb5 := hb2.trans (h3.mono hz2)
                  have d0 : w5.cell? ⟨w.heap.size, 0, none⟩ = some (.bool false) := (hk5.cell 0).trans rfl
                  have d1 : w5.cell? ⟨w.heap.size, 1, none⟩ = some (.slice none 0 0) := (hk5.cell 1).trans rfl
                  have f0 := hk5.frozen 0
                  have f1 := hk5.frozen 1
                  have z0 := hk5.lt
                  clear h3 hk2 hb2
                  go_wp2_with fail
                  exact ret_blk2 Tryz.results76 rfl rfl ((hk5.set_ 0 _).set_ 1 _) Tryz.underlying43 rfl Tryz.sizeInt ⟨.inr ⟨z, HZ.out, A5, c5, rfl, h1, h2.store2 hk5 (by decide) _ _⟩, (hb5.setCell (Nat.le_refl _) _).setCell (Nat.le_refl _) _⟩
    · have hbb : ((b.toNat : Int) == 48) = false := by
        simp only [beq_eq_false_iff_ne, ne_eq]
        intro e
        exact hb48 (UInt8.toNat_inj.1 (by have : (48 : UInt8).toNat = 48 := rfl; omega))
      generalize b.toNat = bn at *
      clear hdl
      have HGO := Lib.hid (fun h => HGD.out h (fun h => hb48 h.1))
      have HS := Lib.hid (fun i => @all_step D i)
      have HB2 := Lib.hid (fun i => @all_bad D i)
      go_wp2_with fail
      go_loopg [8] D.length (fun gn ix wr => ∃ i : Nat, i ≤ D.length ∧ gn = D.length - i ∧ ix = .int .i64 i ∧ (D.take i).all isd = true ∧ w1 = wr)
      case atStart => exact ⟨0, Nat.zero_le _, rfl, rfl, rfl, rfl⟩
      case round =>
        obtain ⟨i, hi, hgi, rfl, hall, rfl⟩ := hrel
        have HG := Lib.hid hgi; have HAL := Lib.hid hall
        clear hgi hall hix hne
        by_cases hlt : i < D.length
        · have hxi := fun (W : World) => Tryz.str_at D i hlt W
          have HST := Lib.hid (HS.out i hlt)
          have HBI := Lib.hid (HB2.out i hlt)
          have hc := (D.getD i 0).toNat_lt
          have i1 : (i : Int) < (D.length : Int) := by omega
          have i0 : (0 : Int) ≤ (i : Int) := by omega
          unfold isd at HST HBI
          generalize (D.getD i 0).toNat = c at *
          have HDG := Lib.hid (fun (W : World) => digit_any c (by omega) W)
          by_cases hcd : 48 ≤ c ∧ c ≤ 57
          · rw [digV_dig hcd] at HDG
            have k1 : ((c - 48 : Nat) : Int) < 10 := by omega
            have HN := Lib.hid (HST.out HAL.out (by simpa using hcd))
            generalize c - 48 = x at *
            clear hcd
            go_wp2_with fail
            refine (HDG.out _).mono ?_
            rintro e w' ⟨rfl, rfl⟩
            go_wp2_with fail
            go_roundg (D.length - (i + 1))
            case rel => exact ⟨i + 1, by omega, rfl, by go_num, HN.out, rfl⟩
            case measure => have := HG.out; omega
          · have k1 : (10 : Int) ≤ (digV c : Int) := by have := digV_not hcd; omega
            have HE := Lib.hid (HOK.out (HBD.out (HBI.out (by simpa using hcd))))
            have d0 : w1.cell? ⟨w.heap.size, 0, none⟩ = some (.bool false) := (hk1.cell 0).trans rfl
            have d1 : w1.cell? ⟨w.heap.size, 1, none⟩ = some (.slice none 0 0) := (hk1.cell 1).trans rfl
            have f0 := hk1.frozen 0
            have f1 := hk1.frozen 1
            have z0 := hk1.lt
            generalize digV c = x at *
            clear hcd
            go_wp2_with fail
            refine (HDG.out _).mono ?_
            rintro e w' ⟨rfl, rfl⟩
            go_wp2_with fail
            exact ret_blk2 Tryz.results76 rfl rfl ((hk1.set_ 0 _).set_ 1 _) Tryz.underlying43 rfl Tryz.sizeInt ⟨.inl ⟨HE.out, rfl⟩, (hb1.setCell (Nat.le_refl _) _).setCell (Nat.le_refl _) _⟩
        · obtain rfl : i = D.length := by omega
          rw [List.take_length] at HAL
          have HO := Lib.hid (HGO.out HAL.out)
          have HCH := Lib.hid (fun W => chunk_ten W)
          go_wp2_with fail
          refine (HCH.out _).mono ?_
          rintro e w' ⟨rfl, rfl⟩
          go_wp2_with fail
          go_loopg [7, 11, 12, 13, 14, 15] D.length (fun gn dv vv _ _ _ _ wr => ∃ (p : Nat) (A : Option Addr) (c : Nat), p ≤ D.length ∧ gn = D.length - p ∧ dv = .string ⟨(D.drop p).toArray⟩ ∧ vv = .slice A (dig (decV (D.take p))).length c ∧ (dig (decV (D.take p))).length ≤ c ∧ NatB wr A (dig (decV (D.take p))) ∧ Blk wr w.heap.size 43 #[.bool false, .slice none 0 0] ∧ Below w.heap.size w wr)
          case atStart => exact ⟨0, none, 0, Nat.zero_le _, rfl, rfl, by rw [List.take_zero]; simp [decV, dig_zero], by rw [List.take_zero]; simp [decV, dig_zero], .inl (by rw [List.take_zero]; simp [decV, dig_zero]), hk1, hb1⟩
          case round =>
            clear hk1 hb1
            obtain ⟨p, Av, cv, hp, hgp, rfl, rfl, hcv, hnb, hk2, hb2⟩ := hrel
            have HGP := Lib.hid hgp
            clear hgp
            have hz2 := hb2.size
            have HVL := Lib.hid (dec_small HAL.out hp)
            have hvl : (dig (decV (D.take p))).length ≤ 100000 := by have := HVL.out; omega
            by_cases hlt2 : p < D.length
            · have HLL := Lib.hid (show (D.drop p).length = D.length - p from List.length_drop)
              have HLA := Lib.hid (show (D.drop p).all isd = true from List.all_eq_true.2 fun x hx => List.all_eq_true.1 HAL.out x (List.mem_of_mem_drop hx))
              have hrd := hnb.reads
              have HJ := Lib.hid (fun n (hn : n ≤ (D.drop p).length) => dec_join D p n hn)
              have HMA := Lib.hid (fun m o hm ho => MulAdd_any Av cv wr.heap.size (dig (decV (D.take p))) m o wr (Nat.le_refl _) hcv (by omega) hm ho hrd (dig_dig _))
              have HDD := Lib.hid (fun n => show (D.drop p).drop n = D.drop (p + n) by rw [List.drop_drop])
              have HVD := Lib.hid (val_dig (decV (D.take p)))
              generalize dig (decV (D.take p)) = es at *
              generalize decV (D.take p) = v at *
              generalize hL : D.drop p = L at *
              clear hL hrd hnb
              obtain ⟨n, hn9, hnL, hn0, hmin⟩ : ∃ n : Nat, n ≤ 9 ∧ n ≤ L.length ∧ 0 < n ∧ (min 9 (L.length : Int)) = (n : Int) := ⟨min 9 L.length, by omega, by omega, by have := HLL.out; omega, by omega⟩
              have hL0 : (0 : Int) < (L.length : Int) := by have := HLL.out; omega
              have hL1 : (L.length : Int) ≤ 100000 := by have := HLL.out; omega
              have HMN := Lib.hid hmin
              clear hmin
              go_wp2_with fail
              rw [HMN.out, show decide (0 < L.length) = true by rw [decide_eq_true_eq]; have := HLL.out; omega]
              have HP0 := Lib.hid (show ((10 ^ 0 : Nat) : Int) = 1 ∧ ((decV (L.take 0) : Nat) : Int) = 0 by simp [decV])
              go_loopg [13, 14, 15] n (fun gn fv pv iv wx => ∃ i : Nat, i ≤ n ∧ gn = n - i ∧ iv = .int .i64 i ∧ fv = .int .u32 ((10 ^ i : Nat) : Int) ∧ pv = .int .u32 ((decV (L.take i) : Nat) : Int) ∧ wr = wx)
              case atStart => exact ⟨0, Nat.zero_le _, rfl, rfl, by rw [HP0.out.1], by rw [HP0.out.2], rfl⟩
              case round =>
                obtain ⟨i, hi, hgi, rfl, rfl, rfl, rfl⟩ := hrel
                have HGI := Lib.hid hgi
                clear hgi
                by_cases hlt3 : i < n
                · have hxi := fun (W : World) => Tryz.str_at L i (by omega) W
                  have hc := (L.getD i 0).toNat_lt
                  have hcd := isd_at HLA.out (show i < L.length by omega)
                  have HDG := Lib.hid (fun (W : World) => digit_any (L.getD i 0).toNat (by omega) W)
                  rw [digV_dig hcd] at HDG
                  have HNX := Lib.hid (decV_take (l := L) (k := i) (by omega))
                  have hsm := dec_part HLA.out (show i ≤ 8 by omega)
                  have HPW := Lib.hid (show (10 ^ (i + 1) : Nat) = 10 ^ i * 10 from Nat.pow_succ 10 i)
                  generalize (L.getD i 0).toNat = ch at *
                  generalize hfi : (10 ^ i : Nat) = f at *
                  generalize decV (L.take i) = q at *
                  generalize hq2e : decV (L.take (i + 1)) = q2 at *
                  generalize hf2e : (10 ^ (i + 1) : Nat) = f2 at *
                  have HQE := Lib.hid hq2e; have HFE := Lib.hid hf2e
                  clear hq2e hf2e
                  obtain ⟨hf1, hf2⟩ := hsm
                  have m1 : (f : Int) * 10 ≤ 1000000000 := by omega
                  have m0 : (0 : Int) ≤ (f : Int) * 10 := by omega
                  have m2 : (q : Int) * 10 ≤ 1000000000 := by omega
                  have m3 : (0 : Int) ≤ (q : Int) * 10 := by omega
                  have m4 : (q : Int) * 10 + ((ch - 48 : Nat) : Int) ≤ 1000000009 := by omega
                  have i1 : (i : Int) < (n : Int) := by omega
                  have i2 : (i : Int) < (L.length : Int) := by omega
                  have i0 : (0 : Int) ≤ (i : Int) := by omega
                  have HQ2 := Lib.hid (show (q2 : Int) = (q : Int) * 10 + ((ch - 48 : Nat) : Int) by have := HNX.out; omega)
                  have HF2 := Lib.hid (show (f2 : Int) = (f : Int) * 10 by have := HPW.out; omega)
                  generalize ch - 48 = dg at *
                  clear hfi hcd
                  go_wp2_with fail
                  refine (HDG.out _).mono ?_
                  rintro e w' ⟨rfl, rfl⟩
                  go_wp2_with fail
                  go_roundg (n - (i + 1))
                  case rel => exact ⟨i + 1, by omega, rfl, by go_num, by rw [HFE.out, HF2.out], by rw [HQE.out, HQ2.out], rfl⟩
                  case measure => have := HGI.out; omega
                · obtain rfl : i = n := by omega
                  have hp10 := pow9 hn9
                  have hsm2 := dec_lt_pow HLA.out (show i ≤ L.length by omega)
                  have HMC := Lib.hid (HMA.out (10 ^ i) (decV (L.take i)) (by omega) (by omega))
                  rw [HVD.out, ← HJ.out i (by omega)] at HMC
                  have hsd := fun (W : World) => Tryz.str_drop L i (by omega) W
                  rw [HDD.out i] at hsd
                  generalize (10 ^ i : Nat) = f at *
                  generalize decV (L.take i) = q at *
                  have i2 : (i : Int) ≤ (L.length : Int) := by omega
                  have i0 : (0 : Int) ≤ (i : Int) := by omega
                  generalize hV2 : dig (decV (D.take (p + i))) = fs at *
                  unfold NatRes at HMC
                  rw [hV2] at HMC
                  have HV2 := Lib.hid hV2
                  clear hV2
                  go_wp2_with fail
                  refine HMC.out.mono ?_
                  rintro e w5 ⟨A5, c5, rfl, h1, h2, h3⟩
                  have hk5 := hk2.old h3
                  have hb5 := hb2.trans (h3.mono hz2)
                  clear h3
                  generalize hL2 : D.drop (p + i) = L2 at *
                  have HL2 := Lib.hid hL2
                  clear hL2
                  go_wp2_with fail
                  go_roundg (D.length - (p + i))
                  case rel => exact ⟨p + i, A5, c5, by have := HLL.out; omega, rfl, by rw [HL2.out], by rw [HV2.out], by rw [HV2.out]; exact h1, by rw [HV2.out]; exact h2, hk5, hb5⟩
                  case measure => have := HGP.out; have := HLL.out; omega
            · obtain rfl : p = D.length := by omega
              rw [List.drop_length]
              rw [List.take_length] at hcv hnb hvl HVL ⊢
              have HFR := Lib.hid (From_any ng Av cv wr.heap.size (dig (decV D)) wr (Nat.le_refl _) hcv (by omega) hnb.reads (dig_dig _))
              have HZ := Lib.hid (show o = some (ival ng (dig (decV D))) by
                rw [HPS.out, HO.out]
                unfold ival
                rw [val_dig]
                simp)
              generalize ival ng (dig (decV D)) = z at *
              generalize dig (decV D) = es at *
              unfold IntRes at HFR
              clear hnb
              go_wp2_with fail
              refine HFR.out.mono ?_
              rintro e w5 ⟨A5, c5, rfl, h1, h2, h3⟩
              have hk5 := hk2.old h3
              have hb5 := hb2.trans (h3.mono hz2)
              have d0 : w5.cell? ⟨w.heap.size, 0, none⟩ = some (.bool false) := (hk5.cell 0).trans rfl
              have d1 : w5.cell? ⟨w.heap.size, 1, none⟩ = some (.slice none 0 0) := (hk5.cell 1).trans rfl
              have f0 := hk5.frozen 0
              have f1 := hk5.frozen 1
              have z0 := hk5.lt
              clear h3 hk2 hb2
              go_wp2_with fail
              exact ret_blk2 Tryz.results76 rfl rfl ((hk5.set_ 0 _).set_ 1 _) Tryz.underlying43 rfl Tryz.sizeInt ⟨.inr ⟨z, HZ.out, A5, c5, rfl, h1, h2.store2 hk5 (by decide) _ _⟩, (hb5.setCell (Nat.le_refl _) _).setCell (Nat.le_refl _) _⟩
theorem DParse_any (s : Bs) (w : World) (hm : s.length ≤ 100000) : Calls Tryz.prog 57 #[.string ⟨s.toArray⟩] w (ParseRes (decP s) w) := by
  have hbl0 := (Below.refl w.heap.size w).alloc (Nat.le_refl _) (.cells #[.bool false, .slice none 0 0] 43)
  have hblk := Blk.new w 43 #[.bool false, .slice none 0 0]
  have HP := Lib.hid (parse_any s (w.alloc (.cells #[.bool false, .slice none 0 0] 43)) hm)
  have HBL := Lib.hid hbl0; have HBK := Lib.hid hblk
  clear hbl0 hblk
  generalize decP s = o at *
  go_enter Tryz.func57, Tryz.ntmps57
  go_wp2_with fail
  refine HP.out.mono ?_
  rintro e w1 ⟨hr, hb1⟩
  have hk1 := HBK.out.old hb1
  have hb2 := HBL.out.trans (hb1.mono HBL.out.size)
  have d0 : w1.cell? ⟨w.heap.size, 0, none⟩ = some (.bool false) := (hk1.cell 0).trans rfl
  have d1 : w1.cell? ⟨w.heap.size, 1, none⟩ = some (.slice none 0 0) := (hk1.cell 1).trans rfl
  have f0 := hk1.frozen 0
  have f1 := hk1.frozen 1
  have z0 := hk1.lt
  rcases hr with ⟨ho, rfl⟩ | ⟨z, ho, A1, c1, rfl, h1, h2⟩
  · have HO := Lib.hid ho
    clear ho
    go_wp2_with fail
    exact ret_blk2 Tryz.results57 rfl rfl ((hk1.set_ 0 _).set_ 1 _) Tryz.underlying43 rfl Tryz.sizeInt ⟨.inl ⟨HO.out, rfl⟩, (hb2.setCell (Nat.le_refl _) _).setCell (Nat.le_refl _) _⟩
  · have HO := Lib.hid ho; have H1 := Lib.hid h1
    clear ho h1
    go_wp2_with fail
    exact ret_blk2 Tryz.results57 rfl rfl ((hk1.set_ 0 _).set_ 1 _) Tryz.underlying43 rfl Tryz.sizeInt ⟨.inr ⟨z, HO.out, A1, c1, rfl, H1.out, h2.store2 hk1 (by decide) _ _⟩, (hb2.setCell (Nat.le_refl _) _).setCell (Nat.le_refl _) _⟩
end Go.Proofs.YtnghlhcekghciaaGreatDoor

/- Contracts of natural.Uint64 and integer.Int64. -/
namespace Go.Proofs.YtnghlhcekghciaaGreatDoor
open Go.RowKit

def U64Res (x : Nat) (w : World) (e : Ending) (w' : World) : Prop :=
  ((x < 18446744073709551616 ∧ e = .returned (.tuple #[.int .u64 (x : Int), .bool true])) ∨ (18446744073709551616 ≤ x ∧ e = .returned (.tuple #[.int .u64 0, .bool false]))) ∧ Drawn w w'
set_option maxHeartbeats 1000000 in
theorem Uint64_any (A : Option Addr) (c B : Nat) (ds : List Nat) (w : World) (hc : ds.length ≤ c) (hm : ds.length ≤ 900000) (hr : Reads w B 1 A ds.length (u32s ds)) (hd : Dig ds) :
    Calls Tryz.prog 102 #[.slice A ds.length c] w (U64Res (val ds) w) := by
  have h1 := trim_any A c B ds w hc (by omega) hr hd
  have r1 := reads_dig hr hd
  have g1 := dig_dig (val ds)
  have t1 := trim_dig (val ds)
  have v1 := val_dig (val ds)
  have l1 := dig_len_le hd
  generalize val ds = x at *
  generalize dig x = a at *
  have H1 := Lib.hid h1
  clear h1 hr hd
  subst v1
  match a, g1, t1, r1, H1, l1 with
  | [], g1, t1, r1, H1, l1 =>
    clear g1 t1 r1
    go_enter Tryz.func102, Tryz.ntmps102
    go_wp2_with fail
    refine (H1.out).mono ?_
    rintro e w1 ⟨rfl, rfl⟩
    go_wp2_with fail
    go_ret2
    exact ⟨.inl ⟨by simp [val], rfl⟩, Drawn.refl _⟩
  | [d0], g1, t1, r1, H1, l1 =>
    obtain ⟨b1, o1, rfl, q1, c1⟩ := nat_at r1 (k := 0) (by simp)
    have h0 : d0 < 4294967296 := g1 d0 (by simp)
    have HV := Lib.hid (show val [d0] = d0 by simp [val])
    simp only [List.getD_cons_zero, Nat.add_zero] at c1
    clear g1 t1 r1
    go_enter Tryz.func102, Tryz.ntmps102
    go_wp2_with fail
    refine (H1.out).mono ?_
    rintro e w1 ⟨rfl, rfl⟩
    go_wp2_with fail
    go_ret2
    exact ⟨.inl ⟨by rw [HV.out]; omega, by rw [HV.out]; rfl⟩, Drawn.refl _⟩
  | [d0, d1], g1, t1, r1, H1, l1 =>
    obtain ⟨b1, o1, rfl, q1, c1⟩ := nat_at r1 (k := 0) (by simp)
    obtain ⟨b2, o2, e2, q2, c2⟩ := nat_at r1 (k := 1) (by simp)
    injection e2 with e2
    injection e2 with x1 x2
    subst x1
    subst x2
    have h0 : d0 < 4294967296 := g1 d0 (by simp)
    have h1 : d1 < 4294967296 := g1 d1 (by simp)
    have hor := or_join d1 d0 h1 h0
    have HV := Lib.hid (show val [d0, d1] = d1 * 4294967296 + d0 by simp [val]; omega)
    have hlt : d1 * 4294967296 + d0 < 18446744073709551616 := by omega
    simp only [List.getD_cons_zero, List.getD_cons_succ, Nat.add_zero] at c1 c2
    generalize d1 * 4294967296 + d0 = y at *
    clear g1 t1 r1
    go_enter Tryz.func102, Tryz.ntmps102
    go_wp2_with fail
    refine (H1.out).mono ?_
    rintro e w1 ⟨rfl, rfl⟩
    go_wp2_with fail
    go_quiet (fail)
    go_wp2_with fail
    go_ret2
    exact ⟨.inl ⟨by rw [HV.out]; omega, by rw [HV.out]; rfl⟩, Drawn.drewN _ _⟩
  | d0 :: d1 :: d2 :: l, g1, t1, r1, H1, l1 =>
    have HV := Lib.hid (show 18446744073709551616 ≤ val (d0 :: d1 :: d2 :: l) by
      have h2 : val (d2 :: l) ≠ 0 := val_pos_of_trim (fun hn => by have := t1 (by simp); simpa using this) (by simp)
      simp only [val] at *
      omega)
    have i0 : ((d0 :: d1 :: d2 :: l).length == 0) = false := rfl
    have e0 : (((d0 :: d1 :: d2 :: l).length : Int) == 0) = false := by simp; omega
    have e1 : (((d0 :: d1 :: d2 :: l).length : Int) == 1) = false := by simp; omega
    have e2 : (((d0 :: d1 :: d2 :: l).length : Int) == 2) = false := by simp; omega
    generalize (d0 :: d1 :: d2 :: l).length = n at *
    generalize val (d0 :: d1 :: d2 :: l) = y at *
    clear g1 t1 r1 i0
    go_enter Tryz.func102, Tryz.ntmps102
    go_wp2_with fail
    refine (H1.out).mono ?_
    rintro e w1 ⟨rfl, rfl⟩
    go_wp2_with fail
    go_ret2
    exact ⟨.inr ⟨HV.out, rfl⟩, Drawn.refl _⟩

/-- how Int64 ends: the value where it fits -/
def I64Res (z : Int) (w : World) (e : Ending) (w' : World) : Prop :=
  ((-9223372036854775808 ≤ z ∧ z ≤ 9223372036854775807 ∧ e = .returned (.tuple #[.int .i64 z, .bool true])) ∨ ((z < -9223372036854775808 ∨ 9223372036854775807 < z) ∧ e = .returned (.tuple #[.int .i64 0, .bool false]))) ∧ Below w.heap.size w w'
theorem wrap_neg {x : Int} (h0 : 0 < x) (h1 : x ≤ 9223372036854775808) : wrap64 (IntKind.u64.wrap (-x)) = -x := by
  simp only [IntKind.wrap, IntKind.bits, IntKind.signed, wrap64]
  simp
  omega
set_option maxHeartbeats 1000000 in
set_option maxRecDepth 100000 in
theorem Int64_any (ng : Bool) (A : Option Addr) (c B : Nat) (ds : List Nat) (w : World) (hB : B ≤ w.heap.size) (hc : ds.length ≤ c) (hm : ds.length ≤ 900000) (hr : Reads w B 1 A ds.length (u32s ds)) (hd : Dig ds) (hz : ng = true → val ds ≠ 0) :
    Calls Tryz.prog 77 #[.agg #[.bool ng, .slice A ds.length c]] w (I64Res (ival ng ds) w) := by
  have hbl := (Below.refl w.heap.size w).alloc (Nat.le_refl _) (.cells #[.bool ng, .slice A ds.length c] 43)
  have HU := Lib.hid (Uint64_any A c B ds _ hc hm (hr.below (hbl.mono hB)) hd)
  have hkb := Blk.new w 43 #[.bool ng, .slice A ds.length c]
  have HB := Lib.hid hbl; have HK := Lib.hid hkb
  have HZV := Lib.hid (show ival ng ds = if ng then -(val ds : Int) else (val ds : Int) from rfl)
  have HZ := Lib.hid hz
  generalize ival ng ds = z at *
  generalize val ds = x at *
  generalize ds.length = n at *
  clear hbl hkb hr hd hz
  go_enter Tryz.func77, Tryz.ntmps77
  go_wp2_with fail
  refine (HU.out).mono ?_
  rintro e w1 ⟨hr, hdr⟩
  have hk := HK.out.drawn hdr
  have hb := HB.out.trans (hdr.below _)
  have d0 : w1.cell? ⟨w.heap.size, 0, none⟩ = some (.bool ng) := hk.cell 0
  have z0 := hk.lt
  rcases hr with ⟨hx, rfl⟩ | ⟨hx, rfl⟩
  · have hx2 : (x : Int) < 18446744073709551616 := by omega
    have hx0 : (0 : Int) ≤ (x : Int) := by omega
    have hx1 := Lib.hid (show ng = true → (0 : Int) < (x : Int) from fun h => by have := HZ.out h; omega)
    clear HU HZ hx
    generalize (x : Int) = y at *
    cases ng with
    | true =>
      have hx3 := hx1.out rfl
      have HZ2 := Lib.hid (show z = -y from HZV.out)
      clear HZV hx1
      by_cases k1 : y ≤ 9223372036854775808
      · go_wp2_with fail
        go_ret2
        exact ⟨.inl ⟨by rw [HZ2.out]; omega, by rw [HZ2.out]; omega, by rw [HZ2.out, wrap_neg hx3 k1]; rfl⟩, hb⟩
      · go_wp2_with fail
        go_ret2
        exact ⟨.inr ⟨by rw [HZ2.out]; omega, rfl⟩, hb⟩
    | false =>
      have HZ2 := Lib.hid (show z = y from HZV.out)
      clear HZV hx1
      by_cases k1 : y < 9223372036854775808
      · go_wp2_with fail
        go_ret2
        exact ⟨.inl ⟨by rw [HZ2.out]; omega, by rw [HZ2.out]; omega, by rw [HZ2.out]; rfl⟩, hb⟩
      · go_wp2_with fail
        go_ret2
        exact ⟨.inr ⟨by rw [HZ2.out]; omega, rfl⟩, hb⟩
  · go_wp2_with fail
    go_ret2
    refine ⟨.inr ⟨?_, rfl⟩, hb⟩
    rw [HZV.out]
    cases ng <;> simp <;> omega
end Go.Proofs.YtnghlhcekghciaaGreatDoor
