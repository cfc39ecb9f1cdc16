/- Contract of natural.MulAdd. -/
import Derived.BigQuiet
import Derived.Test.YtpbapoanjkekmaaZX
import Derived.Test.YtpbapoanjkekmaaX8
import Derived.Test.YtpbapoanjkekmaaZT
import Derived.Test.YtpbapoanjkekmaaX6
import Derived.Test.YtpbapoanjkekmaaZI
namespace Go.Proofs.Ytpbapoanjkekmaa
open Go.RowKit

/-- the digits below k are done, the carry is o -/
structure MAdd (zs : List Nat) (n k o V : Nat) : Prop where
  len : zs.length = n + 1
  dg : Dig zs
  zero : ∀ j, k ≤ j → zs.getD j 0 = 0
  sum : val zs + 4294967296 ^ k * o = V
  carry : o < 4294967296
theorem mAdd0 {n c : Nat} (hc : c < 4294967296) : MAdd (List.replicate (n + 1) 0) n 0 c c where
  len := by simp
  dg := fun d hd => by have := List.eq_of_mem_replicate hd; omega
  zero := fun j _ => by
    rw [List.getD_eq_getElem?_getD, List.getElem?_replicate]
    split <;> rfl
  sum := by rw [val_zeros]; simp
  carry := hc
theorem MAdd.step {zs : List Nat} {n k o V x m s o' : Nat} (h : MAdd zs n k o V) (hk : k < n) (hs : s < 4294967296) (ho : o' < 4294967296) (he : s + 4294967296 * o' = x * m + o) : MAdd (zs.set k s) n (k + 1) o' (V + 4294967296 ^ k * (x * m)) := by
  have hv := val_set (ds := zs) (k := k) (by rw [h.len]; omega) s
  rw [h.zero k (Nat.le_refl _), Nat.mul_zero, Nat.add_zero] at hv
  refine ⟨by simp [h.len], fun d hd => ?_, fun j hj => ?_, ?_, ho⟩
  · rcases List.mem_or_eq_of_mem_set hd with hd | rfl
    · exact h.dg d hd
    · exact hs
  · have := h.zero j (by omega)
    rw [List.getD_eq_getElem?_getD, List.getElem?_set_ne (by omega), ← List.getD_eq_getElem?_getD]
    exact this
  · have h0 := h.sum
    have e : 4294967296 ^ k * (s + 4294967296 * o') = 4294967296 ^ k * (x * m + o) := by rw [he]
    rw [Nat.mul_add, Nat.mul_add] at e
    have e1 : 4294967296 ^ (k + 1) * o' = 4294967296 ^ k * (4294967296 * o') := by rw [Nat.pow_succ, Nat.mul_assoc]
    omega
theorem MAdd.last {zs : List Nat} {n o V : Nat} (h : MAdd zs n n o V) : (zs.set n o).length = n + 1 ∧ Dig (zs.set n o) ∧ val (zs.set n o) = V := by
  have hv := val_set (ds := zs) (k := n) (by rw [h.len]; omega) o
  rw [h.zero n (Nat.le_refl _), Nat.mul_zero, Nat.add_zero] at hv
  refine ⟨by simp [h.len], fun d hd => ?_, by have := h.sum; omega⟩
  rcases List.mem_or_eq_of_mem_set hd with hd | rfl
  · exact h.dg d hd
  · exact h.carry
theorem madd_digits {x m o : Nat} (hx : x < 4294967296) (hm : m < 4294967296) (ho : o < 4294967296) :
    x * m / 4294967296 + (x * m % 4294967296 + o + 0) / 4294967296 < 4294967296 ∧ (x * m % 4294967296 + o + 0) % 4294967296 + 4294967296 * (x * m / 4294967296 + (x * m % 4294967296 + o + 0) / 4294967296) = x * m + o := by
  have := mul_bound hx hm
  generalize x * m = p at *
  omega

end Go.Proofs.Ytpbapoanjkekmaa

/- Contracts of decimal.digit and decimal.split; plain words for decimal.parse. -/
namespace Go.Proofs.Ytpbapoanjkekmaa
open Go.RowKit

def digV (c : Nat) : Nat := if 48 ≤ c ∧ c ≤ 57 then c - 48 else if 97 ≤ c ∧ c ≤ 122 then c - 87 else 36
/-- the sign of a text, the rest -/
def sgnB (s : Bs) : Bool := s.head? == some 45
def sgnR (s : Bs) : Bs := if sgnB s then s.tail else s
theorem Try.str_first (b : UInt8) (r : Bs) (W : World) : (Instr.index 9 (.string ⟨(b :: r).toArray⟩) (.int .i64 0)).run Try.prog W = .ok (.int .u8 (b.toNat : Int)) W := Try.str_at (b :: r) 0 (by simp) W
theorem Try.str_rest (b : UInt8) (r : Bs) (W : World) : (Instr.slice 9 (.string ⟨(b :: r).toArray⟩) (some (.int .i64 1)) none none).run Try.prog W = .ok (.string ⟨r.toArray⟩) W := by
  have e : (⟨(b :: r).toArray⟩ : ByteArray).extract 1 (r.length + 1) = ⟨r.toArray⟩ := by
    apply ByteArray.ext
    rw [ByteArray.data_extract]
    apply Array.ext'
    simp
  simp [Instr.slice, run_underlying Try.underlying9, go_sem]
  rw [if_pos (by omega), e]
/-- a text in decimal: the digits of no leading zero -/
def decOk (ng : Bool) (d : Bs) : Bool := !d.isEmpty && !(d.head? == some 48 && (ng || decide (1 < d.length))) && d.all fun c => decide (48 ≤ c.toNat ∧ c.toNat ≤ 57)
def decP (s : Bs) : Option Int := if decOk (sgnB s) (sgnR s) then some (if sgnB s then -(decV (sgnR s) : Int) else (decV (sgnR s) : Int)) else none
theorem digV_dig {c : Nat} (h : 48 ≤ c ∧ c ≤ 57) : digV c = c - 48 := if_pos h
theorem digV_not {c : Nat} (h : ¬ (48 ≤ c ∧ c ≤ 57)) : 10 ≤ digV c := by
  unfold digV
  rw [if_neg h]
  split <;> omega
theorem decV_take {l : Bs} {k : Nat} (h : k < l.length) : decV (l.take (k + 1)) = decV (l.take k) * 10 + ((l.getD k 0).toNat - 48) := by
  rw [List.take_succ_eq_append_getElem h, decV_snoc, List.getD_eq_getElem?_getD, List.getElem?_eq_getElem h]
  rfl
theorem foldl_dec (l : Bs) : ∀ a, l.foldl (fun a c => a * 10 + (c.toNat - 48)) a = a * 10 ^ l.length + decV l := by
  induction l with
  | nil => intro a; simp [decV]
  | cons c l ih =>
    intro a
    have e : decV (c :: l) = (c.toNat - 48) * 10 ^ l.length + decV l := by rw [decV, List.foldl_cons, ih]; simp
    rw [List.foldl_cons, ih, e, List.length_cons, Nat.pow_succ, Nat.add_mul, Nat.mul_assoc a 10, Nat.mul_comm 10, Nat.add_assoc]
theorem decV_append (a b : Bs) : decV (a ++ b) = decV a * 10 ^ b.length + decV b := by
  rw [decV, List.foldl_append, foldl_dec]
  rfl
theorem decV_lt {l : Bs} (h : l.all (fun c => decide (48 ≤ c.toNat ∧ c.toNat ≤ 57)) = true) : decV l < 10 ^ l.length := by
  induction l with
  | nil => simp [decV]
  | cons c l ih =>
    rw [List.all_cons, Bool.and_eq_true, decide_eq_true_eq] at h
    have ih := ih h.2
    rw [show c :: l = [c] ++ l from rfl, decV_append, List.length_append, List.length_singleton, Nat.pow_add]
    have e : decV [c] ≤ 9 := by simp [decV]; omega
    have := Nat.mul_le_mul_right (10 ^ l.length) e
    omega
end Go.Proofs.Ytpbapoanjkekmaa

/- Contract of decimal.Parse: exactly the decimal texts of integers are read. -/
namespace Go.Proofs.Ytpbapoanjkekmaa
open Go.RowKit

theorem results_cell_tmp {P : Program} {fn : Func} {p q : Tmp} {ty : TypeId} (h : fn.results = #[.cell p ty, .tmp q]) (tmps : Array Value) (w : World) (g : Nat) (t : TypeId) (cs : Array Value) (fr : Nat × Nat) (d : TypeDesc)
    (hp : tmps.getD p undef = .pointer (some ⟨g, 0, none⟩)) (hg : w.heap[g]? = some (.cells cs t fr))
    (hu : P.underlying ty = some d) (hd : (match d with | .struct _ | .array _ _ => true | _ => false) = true) (hi : (P.info? ty).map (·.size) = some cs.size) :
    (results fn tmps).run P w = .ok (.tuple #[.agg cs, tmps.getD q undef]) w := by
  have hp' : tmps[p]?.getD undef = .pointer (some ⟨g, 0, none⟩) := by simpa using hp
  simp [results, h, hp', asAddr, run_loadVar_row w g t ty cs fr d hg hu hd hi]
theorem ret_blk2 {P : Program} {fn : Func} {Q : Ending → World → Prop} {a : Act} {w : World} {p q : Tmp} {ty : TypeId} {g : Nat} {t : TypeId} {cs : Array Value} {d : TypeDesc} (hr : fn.results = #[.cell p ty, .tmp q]) (hdf : a.defers = []) (hp : a.tmps.getD p undef = .pointer (some ⟨g, 0, none⟩)) (hb : Blk w g t cs)
    (hu : P.underlying ty = some d) (hd : (match d with | .struct _ | .array _ _ => true | _ => false) = true) (hi : (P.info? ty).map (·.size) = some cs.size) (h : Q (.returned (.tuple #[.agg cs, a.tmps.getD q undef])) w) : bodyPost P fn Q Exit.ret a w :=
  bodyPost_ret (results_cell_tmp hr a.tmps w g t cs (0, 0) d hp hb hu hd hi) hdf h

/-- how Parse ends -/
def ParseRes (o : Option Int) (w : World) (e : Ending) (w' : World) : Prop :=
  ((o = none ∧ e = .returned (.tuple #[.agg #[.bool false, .slice none 0 0], .int .i64 6])) ∨
    ∃ z, o = some z ∧ ∃ A c, e = .returned (.tuple #[.agg #[.bool (decide (z < 0)), .slice A (dig z.natAbs).length c], .int .i64 0]) ∧ (dig z.natAbs).length ≤ c ∧ NatB w' A (dig z.natAbs)) ∧ Below w.heap.size w w'
theorem str_drop_ext (l : Bs) (n : Nat) : (⟨l.toArray⟩ : ByteArray).extract n l.length = ⟨(l.drop n).toArray⟩ := by
  apply ByteArray.ext
  rw [ByteArray.data_extract]
  apply Array.ext'
  simp [List.take_of_length_le]
theorem Try.str_drop (l : Bs) (n : Nat) (h : n ≤ l.length) (W : World) : (Instr.slice 9 (.string ⟨l.toArray⟩) (some (.int .i64 (n : Int))) none none).run Try.prog W = .ok (.string ⟨(l.drop n).toArray⟩) W := by
  simp [Instr.slice, run_underlying Try.underlying9, go_sem]
  rw [if_pos (by omega), str_drop_ext]
theorem pow_le_big (p : Nat) : 10 ^ p ≤ 4294967296 ^ p := Nat.pow_le_pow_left (by decide) p

def isd (c : UInt8) : Bool := decide (48 ≤ c.toNat ∧ c.toNat ≤ 57)
theorem all_step {D : Bs} {i : Nat} (hi : i < D.length) (h : (D.take i).all isd = true) (hc : isd (D.getD i 0) = true) : (D.take (i + 1)).all isd = true := by
  rw [List.take_succ_eq_append_getElem hi, List.all_append, h, Bool.true_and, List.all_cons, List.all_nil, Bool.and_true]
  rwa [List.getD_eq_getElem?_getD, List.getElem?_eq_getElem hi] at hc
theorem all_bad {D : Bs} {i : Nat} (hi : i < D.length) (hc : isd (D.getD i 0) = false) : D.all isd = false := by
  rw [List.all_eq_false]
  refine ⟨D.getD i 0, ?_, by rw [hc]; simp⟩
  rw [List.getD_eq_getElem?_getD, List.getElem?_eq_getElem hi]
  exact List.getElem_mem hi
theorem dec_small {D : Bs} (h : D.all isd = true) {p : Nat} (hp : p ≤ D.length) : (dig (decV (D.take p))).length ≤ p := by
  have h1 := decV_lt (l := D.take p) (List.all_eq_true.2 fun x hx => List.all_eq_true.1 h x (List.mem_of_mem_take hx))
  rw [List.length_take, Nat.min_eq_left hp] at h1
  exact dig_len_lt (Nat.lt_of_lt_of_le h1 (pow_le_big p))
theorem isd_at {D : Bs} (h : D.all isd = true) {i : Nat} (hi : i < D.length) : 48 ≤ (D.getD i 0).toNat ∧ (D.getD i 0).toNat ≤ 57 := by
  have := List.all_eq_true.1 h (D.getD i 0) (by rw [List.getD_eq_getElem?_getD, List.getElem?_eq_getElem hi]; exact List.getElem_mem hi)
  simpa [isd] using this
theorem dec_lt_pow {D : Bs} (h : D.all isd = true) {p : Nat} (hp : p ≤ D.length) : decV (D.take p) < 10 ^ p := by
  have h1 := decV_lt (l := D.take p) (List.all_eq_true.2 fun x hx => List.all_eq_true.1 h x (List.mem_of_mem_take hx))
  rwa [List.length_take, Nat.min_eq_left hp] at h1
theorem pow9 {i : Nat} (h : i ≤ 9) : 10 ^ i ≤ 1000000000 := Nat.pow_le_pow_right (n := 10) (by decide) h
theorem dec_part {D : Bs} (h : D.all isd = true) {i : Nat} (hi : i ≤ 8) : 10 ^ i ≤ 100000000 ∧ decV (D.take i) < 100000000 := by
  have h1 : 10 ^ i ≤ 10 ^ 8 := Nat.pow_le_pow_right (n := 10) (by decide) hi
  refine ⟨h1, ?_⟩
  have h2 := decV_lt (l := D.take i) (List.all_eq_true.2 fun x hx => List.all_eq_true.1 h x (List.mem_of_mem_take hx))
  have h3 : 10 ^ (D.take i).length ≤ 10 ^ 8 := Nat.pow_le_pow_right (n := 10) (by decide) (by rw [List.length_take]; omega)
  omega
theorem dec_join (D : Bs) (p n : Nat) (hn : n ≤ (D.drop p).length) : decV (D.take (p + n)) = decV (D.take p) * 10 ^ n + decV ((D.drop p).take n) := by
  have e : D.take (p + n) = D.take p ++ (D.drop p).take n := by rw [List.take_add]
  rw [e, decV_append, List.length_take, Nat.min_eq_left hn]

end Go.Proofs.Ytpbapoanjkekmaa

/- Contracts of natural.Uint64 and integer.Int64. -/
namespace Go.Proofs.Ytpbapoanjkekmaa
open Go.RowKit

def U64Res (x : Nat) (w : World) (e : Ending) (w' : World) : Prop :=
  ((x < 18446744073709551616 ∧ e = .returned (.tuple #[.int .u64 (x : Int), .bool true])) ∨ (18446744073709551616 ≤ x ∧ e = .returned (.tuple #[.int .u64 0, .bool false]))) ∧ Drawn w w'
set_option maxHeartbeats 1000000 in
theorem Uint64_any (A : Option Addr) (c B : Nat) (ds : List Nat) (w : World) (hc : ds.length ≤ c) (hm : ds.length ≤ 900000) (hr : Reads w B 1 A ds.length (u32s ds)) (hd : Dig ds) :
    Calls Try.prog 67 #[.slice A ds.length c] w (U64Res (val ds) w) := by
  have h1 := trim_any A c B ds w hc (by omega) hr hd
  have r1 := reads_dig hr hd
  have g1 := dig_dig (val ds)
  have t1 := trim_dig (val ds)
  have v1 := val_dig (val ds)
  have l1 := dig_len_le hd
  generalize val ds = x at *
  generalize dig x = a at *
  have H1 := Lib.hid h1
  clear h1 hr hd
  subst v1
  match a, g1, t1, r1, H1, l1 with
  | [], g1, t1, r1, H1, l1 =>
    clear g1 t1 r1
    go_enter Try.func67, Try.ntmps67
    go_wp2_with fail
    refine (H1.out).mono ?_
    rintro e w1 ⟨rfl, rfl⟩
    go_wp2_with fail
    go_ret2
    exact ⟨.inl ⟨by simp [val], rfl⟩, Drawn.refl _⟩
  | [d0], g1, t1, r1, H1, l1 =>
    obtain ⟨b1, o1, rfl, q1, c1⟩ := nat_at r1 (k := 0) (by simp)
    have h0 : d0 < 4294967296 := g1 d0 (by simp)
    have HV := Lib.hid (show val [d0] = d0 by simp [val])
    simp only [List.getD_cons_zero, Nat.add_zero] at c1
    clear g1 t1 r1
    go_enter Try.func67, Try.ntmps67
    go_wp2_with fail
    refine (H1.out).mono ?_
    rintro e w1 ⟨rfl, rfl⟩
    go_wp2_with fail
    go_ret2
    exact ⟨.inl ⟨by rw [HV.out]; omega, by rw [HV.out]; rfl⟩, Drawn.refl _⟩
  | [d0, d1], g1, t1, r1, H1, l1 =>
    obtain ⟨b1, o1, rfl, q1, c1⟩ := nat_at r1 (k := 0) (by simp)
    obtain ⟨b2, o2, e2, q2, c2⟩ := nat_at r1 (k := 1) (by simp)
    injection e2 with e2
    injection e2 with x1 x2
    subst x1
    subst x2
    have h0 : d0 < 4294967296 := g1 d0 (by simp)
    have h1 : d1 < 4294967296 := g1 d1 (by simp)
    have hor := or_join d1 d0 h1 h0
    have HV := Lib.hid (show val [d0, d1] = d1 * 4294967296 + d0 by simp [val]; omega)
    have hlt : d1 * 4294967296 + d0 < 18446744073709551616 := by omega
    simp only [List.getD_cons_zero, List.getD_cons_succ, Nat.add_zero] at c1 c2
    generalize d1 * 4294967296 + d0 = y at *
    clear g1 t1 r1
    go_enter Try.func67, Try.ntmps67
    go_wp2_with fail
    refine (H1.out).mono ?_
    rintro e w1 ⟨rfl, rfl⟩
    go_wp2_with fail
    go_quiet (fail)
    go_wp2_with fail
    go_ret2
    exact ⟨.inl ⟨by rw [HV.out]; omega, by rw [HV.out]; rfl⟩, Drawn.drewN _ _⟩
  | d0 :: d1 :: d2 :: l, g1, t1, r1, H1, l1 =>
    have HV := Lib.hid (show 18446744073709551616 ≤ val (d0 :: d1 :: d2 :: l) by
      have h2 : val (d2 :: l) ≠ 0 := val_pos_of_trim (fun hn => by have := t1 (by simp); simpa using this) (by simp)
      simp only [val] at *
      omega)
    have i0 : ((d0 :: d1 :: d2 :: l).length == 0) = false := rfl
    have e0 : (((d0 :: d1 :: d2 :: l).length : Int) == 0) = false := by simp; omega
    have e1 : (((d0 :: d1 :: d2 :: l).length : Int) == 1) = false := by simp; omega
    have e2 : (((d0 :: d1 :: d2 :: l).length : Int) == 2) = false := by simp; omega
    generalize (d0 :: d1 :: d2 :: l).length = n at *
    generalize val (d0 :: d1 :: d2 :: l) = y at *
    clear g1 t1 r1 i0
    go_enter Try.func67, Try.ntmps67
    go_wp2_with fail
    refine (H1.out).mono ?_
    rintro e w1 ⟨rfl, rfl⟩
    go_wp2_with fail
    go_ret2
    exact ⟨.inr ⟨HV.out, rfl⟩, Drawn.refl _⟩

/-- how Int64 ends: the value where it fits -/
def I64Res (z : Int) (w : World) (e : Ending) (w' : World) : Prop :=
  ((-9223372036854775808 ≤ z ∧ z ≤ 9223372036854775807 ∧ e = .returned (.tuple #[.int .i64 z, .bool true])) ∨ ((z < -9223372036854775808 ∨ 9223372036854775807 < z) ∧ e = .returned (.tuple #[.int .i64 0, .bool false]))) ∧ Below w.heap.size w w'
theorem wrap_neg {x : Int} (h0 : 0 < x) (h1 : x ≤ 9223372036854775808) : wrap64 (IntKind.u64.wrap (-x)) = -x := by
  simp only [IntKind.wrap, IntKind.bits, IntKind.signed, wrap64]
  simp
  omega
end Go.Proofs.Ytpbapoanjkekmaa
