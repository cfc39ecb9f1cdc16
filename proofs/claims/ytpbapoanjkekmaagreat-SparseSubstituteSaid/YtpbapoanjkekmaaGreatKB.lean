/- Contract of natural.product for numbers of any length: Karatsuba's way. -/
import Derived.Test.YtpbapoanjkekmaaGreatKA
import Derived.Test.YtpbapoanjkekmaaGreatZI
namespace Go.Proofs.YtpbapoanjkekmaaGreat
open Go.RowKit

theorem nin_take {w : World} {B b o c : Nat} {l : List Nat} (h : NatIn w B (some ⟨b, o, none⟩) c l) {k : Nat} (hk : k ≤ l.length) : NatIn w B (some ⟨b, o, none⟩) c (l.take k) := by
  refine ⟨⟨by simp [u32s], fun hp => ?_⟩, fun d hd => h.dg d (List.mem_of_mem_take hd), ?_⟩
  · rw [List.length_take] at hp
    obtain ⟨b1, o1, e, hb, hc⟩ := h.rd.2 (by omega)
    refine ⟨b1, o1, e, hb, fun j u hu => hc j u ?_⟩
    simp [u32s, List.getElem?_take] at hu ⊢
    exact hu.2
  · have := h.cap
    rw [List.length_take]; omega
theorem nin_drop {w : World} {B b o c : Nat} {l : List Nat} (h : NatIn w B (some ⟨b, o, none⟩) c l) {k : Nat} (hk : k ≤ l.length) : NatIn w B (some ⟨b, o + k, none⟩) (c - k) (l.drop k) := by
  refine ⟨⟨by simp [u32s], fun hp => ?_⟩, fun d hd => h.dg d (List.mem_of_mem_drop hd), ?_⟩
  · rw [List.length_drop] at hp
    obtain ⟨b1, o1, e, hb, hc⟩ := h.rd.2 (by omega)
    injection e with e; injection e with e1 e2 _; subst e1; subst e2
    refine ⟨b, o + k, rfl, hb, fun j u hu => ?_⟩
    rw [Nat.add_assoc]
    refine hc (k + j) u ?_
    simp [u32s, List.getElem?_drop] at hu ⊢
    exact hu
  · have := h.cap
    rw [List.length_drop]; omega
theorem dig_app {a b : List Nat} (ha : Dig a) (hb : Dig b) : Dig (a ++ b) := fun d hd => by
  rcases List.mem_append.1 hd with h | h
  · exact ha d h
  · exact hb d h
theorem dig_zs (n : Nat) : Dig (List.replicate n 0) := fun d hd => by have := List.eq_of_mem_replicate hd; omega
theorem u32s_len (l : List Nat) : (u32s l).length = l.length := by simp [u32s]
theorem splice_u (zs xs : List Nat) (o : Nat) : splice (u32s zs) o (u32s xs) = u32s (zs.take o ++ xs ++ zs.drop (o + xs.length)) := by
  simp [splice, u32s, List.map_take, List.map_drop]
theorem zeros_take (n o : Nat) (h : o ≤ n) : (List.replicate n 0).take o = List.replicate o (0 : Nat) := by rw [List.take_replicate, Nat.min_eq_left h]
/-- the middle of Karatsuba's product -/
theorem kara_mid (al ah bl bh : Nat) : (al + ah) * (bl + bh) - (al * bl + ah * bh) = al * bh + ah * bl ∧ al * bl + ah * bh ≤ (al + ah) * (bl + bh) := by
  have e : (al + ah) * (bl + bh) = al * bl + ah * bh + (al * bh + ah * bl) := by
    rw [Nat.add_mul, Nat.mul_add, Nat.mul_add]; omega
  omega
theorem kara_sum (al ah bl bh P : Nat) : al * bl + P * P * (ah * bh) + P * (al * bh + ah * bl) = (al + P * ah) * (bl + P * bh) := by
  rw [Nat.add_mul, Nat.mul_add, Nat.mul_add, Nat.mul_add]
  have e1 : al * (P * bh) = P * (al * bh) := Nat.mul_left_comm _ _ _
  have e2 : P * ah * bl = P * (ah * bl) := Nat.mul_assoc _ _ _
  have e3 : P * ah * (P * bh) = P * P * (ah * bh) := Nat.mul_mul_mul_comm _ _ _ _
  rw [e1, e2, e3]
  omega
theorem pow_split {P m n k v : Nat} (hP : P = 4294967296 ^ k) (hn : n = k + m) (h : P * v < 4294967296 ^ n) : v < 4294967296 ^ m := by
  rw [hn, Nat.pow_add, ← hP] at h
  exact Nat.lt_of_mul_lt_mul_left h
theorem natX_of {b g : Nat} {w : World} {A : Option Addr} {ds : List Nat} (h : NatN b w A ds) (hg : g < b) : NatX w g A ds := by
  rcases h with rfl | ⟨k, zs, rfl, hk, hb, he⟩
  · exact .inl rfl
  · exact .inr ⟨k, zs, rfl, by omega, hb, he⟩
/-- the factors, the longer one first -/
def MulArgs (w : World) (B n X : Nat) (u v : Value) : Prop :=
  ∃ (A A' : Option Addr) (c c' : Nat) (a b : List Nat), u = .slice A a.length c ∧ v = .slice A' b.length c' ∧ b.length ≤ a.length ∧ a.length + b.length = n ∧ NatIn w B A c a ∧ NatIn w B A' c' b ∧ val a * val b = X
/-- product's contract for fewer digits -/
def ProdIH (n : Nat) : Prop := ∀ (A A' : Option Addr) (c c' B : Nat) (a b : List Nat) (w : World), a.length + b.length < n → B ≤ w.heap.size → NatIn w B A c a → NatIn w B A' c' b →
  Calls Tryz.prog 90 #[.slice A a.length c, .slice A' b.length c'] w (ProdN (a.length + b.length) (val a * val b) w)
theorem NatN.into {b g : Nat} {w w' : World} {A : Option Addr} {ds : List Nat} (h : NatN b w A ds) (hg : g < b) (hi : Into w w' g) : NatN b w' A ds := by
  rcases h with rfl | ⟨k, zs, rfl, hk, hb, he⟩
  · exact .inl rfl
  · exact .inr ⟨k, zs, rfl, hk, hi.other _ _ _ (by omega) hb, he⟩
/-- copy into the block g: the other blocks stay -/
theorem wpList_copy_into {P : Program} {w : World} {ops : Array Oper} {rest : List Oper} {o : Oper} {a : Act} {Q : Exit → Act → World → Prop} (hgd : o.guard = none) (d s : Operand) (dT sT : TypeId)
    (ho : o.op = .call { callee := .builtin .copy, args := #[d, s], argTypes := #[dT, sT] }) (elem : TypeId) (hu : P.underlying dT = some (.slice elem)) (hsz : (P.info? elem).map (·.size) = some 1)
    (dp sp : Option Addr) (dLen dCap sLen sCap : Nat) (hd : a.eval d = .slice dp dLen dCap) (hs : a.eval s = .slice sp sLen sCap)
    (g off : Nat) (cur : List Value) (t : TypeId) (hg : Blk w g t cur.toArray) (cs : List Value) (hn : cs.length = Nat.min sLen dLen)
    (hpos : 0 < cs.length → dp = some ⟨g, off, none⟩ ∧ ∃ ad, sp = some ad ∧ ∀ j v, cs[j]? = some v → w.cell? (ad.add j) = some v)
    (hfit : off + cs.length ≤ cur.length) (h1 : ∀ v ∈ cs, v.oneCell' = true)
    (h : ∀ w', Hid (Blk w' g t (splice cur off cs).toArray) → Into w w' g → wpList P ops Q rest (a.put o.dst (goInt cs.length)) w') :
    wpList P ops Q (o :: rest) a w := by
  by_cases h0 : cs.length = 0
  · obtain rfl : cs = [] := List.eq_nil_of_length_eq_zero h0
    refine wpList_copy_nothing hgd d s dT sT ho elem hu hsz dp sp dLen dCap sLen sCap hd hs (by simpa using hn.symm) ?_
    exact h w (show Blk _ _ _ _ by simpa [splice] using hg) (Into.refl _ _)
  · obtain ⟨rfl, ad, rfl, hsrc⟩ := hpos (by omega)
    refine wpList_copy_own hgd d s dT sT ho elem hu hsz g off dLen dCap ad sLen sCap hd hs cur.toArray t hg cs hn hsrc (by simpa using hfit) h1 ?_
    refine h _ (show _ = _ by simpa [splice] using setRow_heap w g _ _ t _ hg) ⟨fun g' t' cs' hne hb => (setRow_other w g g' _ hne).trans hb, fun B b hb hB => below_setRow hb hB _⟩
theorem nin_of {w : World} {A : Option Addr} {c : Nat} {ds : List Nat} (h : NatB w A ds) (hd : Dig ds) (hc : ds.length ≤ c) : NatIn w w.heap.size A c ds := ⟨h.reads, hd, hc⟩
theorem splice_tail {z1 z2 : List Nat} {n h : Nat} (h1 : z1.length = h) (h2 : z2.length = n - h) (hn : h ≤ n) : splice (u32s (z1 ++ List.replicate (n - h) 0)) h (u32s z2) = u32s (z1 ++ z2) := by
  rw [splice_u]
  congr 1
  subst h1
  rw [List.take_left, List.append_assoc]
  congr 1
  rw [List.drop_of_length_le (by rw [List.length_append, List.length_replicate, h2]; omega), List.append_nil]
end Go.Proofs.YtpbapoanjkekmaaGreat
