/- Contract of decimal.format at base 10 and of decimal.Format, at an integer that is not negative. -/
import Derived.Laws.IdiomStrings
import Derived.Laws.Concat
import Derived.Test.YtpbapoanjkekmaaZX
namespace Go.Proofs.Ytpbapoanjkekmaa
open Go.RowKit

theorem revD_end {p i : Nat} (h : p / 10 ^ i = 0) (k : i = 0 ∨ p / 10 ^ (i - 1) ≠ 0) : revD p = digs p i := by
  cases i with
  | zero => rw [show p = 0 by simpa using h, revD_zero]; rfl
  | succ i =>
    have hk : p / 10 ^ i ≠ 0 := by rcases k with k | k; · omega
                                   · simpa using k
    have hs : p / 10 ^ i / 10 = 0 := by rw [Nat.div_div_eq_div_mul, ← Nat.pow_succ]; exact h
    rw [revD_digs i hk, revD_pos hk, hs, revD_zero]
    rfl
theorem digs_len (n : Nat) : ∀ k, (digs n k).length = k
  | 0 => rfl
  | k + 1 => by rw [digs, List.length_append, digs_len n k]; rfl
theorem div_ten (p i : Nat) : p / 10 ^ (i + 1) = p / 10 ^ i / 10 := by rw [Nat.pow_succ, Nat.div_div_eq_div_mul]
theorem dch_nat (d : Nat) (h : d < 10) : (dch d).toNat = 48 + d := digit_nat h

/-- digits that lie below a block, or in a block of digits -/
def Src (B : Nat) (w : World) (A : Option Addr) (c : Nat) (ds : List Nat) : Prop := NatIn w B A c ds ∨ (NatB w A ds ∧ Dig ds ∧ ds.length ≤ c)
theorem Src.nat {B c : Nat} {w : World} {A : Option Addr} {ds : List Nat} (h : Src B w A c ds) (hB : B ≤ w.heap.size) : NatIn w w.heap.size A c ds := by
  rcases h with h | ⟨h, hd, hc⟩
  · exact h.more hB
  · exact ⟨h.reads, hd, hc⟩
theorem Src.keep {B c : Nat} {w w' : World} {A : Option Addr} {ds : List Nat} (h : Src B w A c ds) (hb : Below B w w') (hk : ∀ g cs, Blk w g 70 cs → Blk w' g 70 cs) : Src B w' A c ds := by
  rcases h with h | ⟨h, hd, hc⟩
  · exact .inl (h.below hb)
  · exact .inr ⟨h.keep hk, hd, hc⟩
theorem Src.old {B c : Nat} {w w' : World} {A : Option Addr} {ds : List Nat} (h : Src B w A c ds) (hB : B ≤ w.heap.size) (hb : Below w.heap.size w w') : Src B w' A c ds := h.keep (hb.mono hB) fun _ _ k => k.old hb
theorem Src.row {B base n c : Nat} {w w' : World} {A : Option Addr} {ds : List Nat} {v : Value} {xs : List Value} (h : Src B w A c ds) (hB : B ≤ base) (hbs : base ≤ w.heap.size) (ho : w.ownsRow base 5 1 v n xs) (hg : w.grownBy w' v.ownBlock) : Src B w' A c ds :=
  h.keep (((Below.refl base w).grown hg hbs (fun k hk => (ho.lt k hk).1)).mono hB) fun g cs hb => hb.grown hg (own_blk_ne ho hb (by decide))

theorem own_after {base n size : Nat} {e : TypeId} {w w' : World} {v : Value} {xs : List Value} (h : w.ownsRow base e size v n xs) (hb : Below w.heap.size w w') : w'.ownsRow base e size v n xs := by
  refine ⟨h.1, ?_⟩
  rcases h.2 with k | ⟨g, cap, cur, h1, h2, h3, h4⟩
  · exact .inl k
  · exact .inr ⟨g, cap, cur, h1, h2, (show Blk w g e cur from h3).old hb, h4⟩
def symbols : ByteArray := ⟨#[48, 49, 50, 51, 52, 53, 54, 55, 56, 57, 97, 98, 99, 100, 101, 102, 103, 104, 105, 106, 107, 108, 109, 110, 111, 112, 113, 114, 115, 116, 117, 118, 119, 120, 121, 122]⟩
theorem Try.sym_at (x : Nat) (W : World) : (Instr.index 9 (.string symbols) (.int .u32 ((x : Int) % 10))).run Try.prog W = .ok (.int .u8 ((dch (x % 10)).toNat : Int)) W := by
  have e : (x : Int) % 10 = ((x % 10 : Nat) : Int) := by omega
  rw [e, dch_nat _ (by omega)]
  have h : x % 10 < 10 := by omega
  generalize x % 10 = d at *
  rcases (by omega : d = 0 ∨ d = 1 ∨ d = 2 ∨ d = 3 ∨ d = 4 ∨ d = 5 ∨ d = 6 ∨ d = 7 ∨ d = 8 ∨ d = 9) with rfl | rfl | rfl | rfl | rfl | rfl | rfl | rfl | rfl | rfl <;>
    (simp [Instr.index, run_underlying Try.underlying9, asIntOf, go_sem, symbols]; rfl)
theorem DivSmall_e9 (A : Option Addr) (c : Nat) (ds : List Nat) (w : World) (h : NatIn w w.heap.size A c ds) (hm : ds.length ≤ 900000) :
    Calls Try.prog 81 #[.slice A ds.length c, .int .u32 1000000000] w (DivRes (val ds) 1000000000 w) :=
  DivSmall_any A c w.heap.size ds 1000000000 w (Nat.le_refl _) h.cap hm (by decide) (by decide) h.rd h.dg

theorem revD_bd {ds : List Nat} (hd : Dig ds) (hm : ds.length ≤ 1000) : (revD (val ds)).length ≤ 10000 := by
  have h1 := pow_dec ds.length
  rw [Nat.pow_mul, show (2 : Nat) ^ 32 = 4294967296 by decide] at h1
  have := revD_len (Nat.lt_of_lt_of_le (val_lt hd) h1)
  omega
theorem sgn_pos {ds : List Nat} (h : val ds ≠ 0) : sgnOf (ival false ds) = 1 := by
  unfold sgnOf ival
  simp
  rw [if_neg (by omega), if_neg h]
theorem sgn_zero {ds : List Nat} (h : val ds = 0) : sgnOf (ival false ds) = 0 := by
  unfold sgnOf ival
  simp [h]
theorem Try.infoU8' : (Try.prog.info? 5).map (fun i => (i.zero, i.size, i.bytes)) = some (some (.int .u8 0), 1, 1) := by kernel_rfl

end Go.Proofs.Ytpbapoanjkekmaa
