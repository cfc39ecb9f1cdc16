/- Contract of sparse.Add. -/
import Derived.Test.YtnghlhcekghciaaGreatDoorH1
namespace Go.Proofs.YtnghlhcekghciaaGreatDoor
open Go.RowKit

def preL (p q : List Tm) : Nat → List Tm
  | 0 => []
  | 1 => p
  | _ => p ++ q
theorem preL_nrm (p q : List Tm) (i : Nat) : nrm (preL p q i) ≤ nrm p + nrm q := by
  match i with
  | 0 => simp [preL, nrm]
  | 1 => simp [preL]
  | i + 2 => simp [preL, nrm_append]
theorem preL_len (p q : List Tm) (i : Nat) : (preL p q i).length ≤ p.length + q.length := by
  match i with
  | 0 => simp [preL]
  | 1 => simp [preL]
  | i + 2 => simp [preL]
end Go.Proofs.YtnghlhcekghciaaGreatDoor

/- Plain laws for the loops of sparse.Mul. -/
namespace Go.Proofs.YtnghlhcekghciaaGreatDoor

def mulRow (s : Tm) (q : List Tm) : List Tm := q.map fun t => (s.1 * t.1, addM s.2 t.2)
theorem mulL_snoc (p q : List Tm) (s : Tm) : mulL (p ++ [s]) q = mulL p q ++ mulRow s q := by simp [mulL, mulRow]
theorem mulL_take {ps : List PT} {q : List Tm} {i : Nat} {p : PT} (hi : ps[i]? = some p) : mulL ((ps.take (i + 1)).map PT.tm) q = mulL ((ps.take i).map PT.tm) q ++ mulRow p.tm q := by rw [take_snoc_tm hi, mulL_snoc]
theorem mulRow_take {qs : List PT} {s : Tm} {k : Nat} {t : PT} (hk : qs[k]? = some t) : mulRow s ((qs.take (k + 1)).map PT.tm) = mulRow s ((qs.take k).map PT.tm) ++ [(s.1 * t.tm.1, addM s.2 t.tm.2)] := by rw [take_snoc_tm hk]; simp [mulRow]
theorem nrm_mulRow (s : Tm) (q : List Tm) : nrm (mulRow s q) = s.1.natAbs * nrm q := nrm_row s.1 s.2 q
theorem len_mulRow (s : Tm) (q : List Tm) : (mulRow s q).length = q.length := by simp [mulRow]
theorem part_nrm {ps qs : List PT} {i k : Nat} {p : PT} (hi : ps[i]? = some p) : nrm (mulL ((ps.take i).map PT.tm) (qs.map PT.tm) ++ mulRow p.tm ((qs.take k).map PT.tm)) ≤ nrm (ps.map PT.tm) * nrm (qs.map PT.tm) := by
  have h1 := nrm_take_tm ps (i + 1)
  have h2 := nrm_take_tm qs k
  rw [take_snoc_tm hi, nrm_append] at h1
  simp only [nrm] at h1
  rw [nrm_append, nrm_mulL, nrm_mulRow]
  calc _ ≤ nrm ((ps.take i).map PT.tm) * nrm (qs.map PT.tm) + p.tm.1.natAbs * nrm (qs.map PT.tm) := Nat.add_le_add_left (Nat.mul_le_mul_left _ h2) _
    _ = (nrm ((ps.take i).map PT.tm) + p.tm.1.natAbs) * nrm (qs.map PT.tm) := by rw [Nat.add_mul]
    _ ≤ _ := Nat.mul_le_mul_right _ (by omega)
theorem part_len {ps qs : List PT} {i k : Nat} {p : PT} (hi : ps[i]? = some p) : (mulL ((ps.take i).map PT.tm) (qs.map PT.tm) ++ mulRow p.tm ((qs.take k).map PT.tm)).length ≤ ps.length * qs.length := by
  have hl : i < ps.length := (List.getElem?_eq_some_iff.1 hi).1
  rw [List.length_append, len_mulL, len_mulRow]
  simp only [List.length_map, List.length_take]
  have e : min i ps.length = i := by omega
  rw [e]
  calc _ ≤ i * qs.length + qs.length := Nat.add_le_add_left (by omega) _
    _ = (i + 1) * qs.length := by rw [Nat.add_mul, Nat.one_mul]
    _ ≤ _ := Nat.mul_le_mul_right _ hl
/-- the first j exponents added -/
def mixM (s0 s1 s2 s3 t0 t1 t2 t3 : Int) : Nat → Array Value
  | 0 => #[.int .i64 s0, .int .i64 s1, .int .i64 s2, .int .i64 s3]
  | 1 => #[.int .i64 (s0 + t0), .int .i64 s1, .int .i64 s2, .int .i64 s3]
  | 2 => #[.int .i64 (s0 + t0), .int .i64 (s1 + t1), .int .i64 s2, .int .i64 s3]
  | 3 => #[.int .i64 (s0 + t0), .int .i64 (s1 + t1), .int .i64 (s2 + t2), .int .i64 s3]
  | _ => #[.int .i64 (s0 + t0), .int .i64 (s1 + t1), .int .i64 (s2 + t2), .int .i64 (s3 + t3)]
theorem MB.add {E E' : Int} {a b : Mo} (h : MB E a) (k : MB E' b) : MB (E + E') (addM a b) := by
  unfold MB addM at *
  simp only
  omega
theorem mem_mulL {p q : List Tm} {t : Tm} (h : t ∈ mulL p q) : ∃ a ∈ p, ∃ b ∈ q, t = (a.1 * b.1, addM a.2 b.2) := by
  unfold mulL at h
  obtain ⟨a, ha, h⟩ := List.mem_flatMap.1 h
  obtain ⟨b, hb, rfl⟩ := List.mem_map.1 h
  exact ⟨a, ha, b, hb, rfl⟩
end Go.Proofs.YtnghlhcekghciaaGreatDoor
