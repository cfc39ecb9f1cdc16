/- Words for a gather: one coefficient turned. -/
import Derived.Test.YtpbapoanjkekmaaG2
namespace Go.Proofs.Ytpbapoanjkekmaa
open Go.RowKit

theorem flat_set (ps : List PT) (i : Nat) (p q : PT) (hi : ps[i]? = some p) (hm : q.m = p.m) : (ps.set i q).flatMap PT.cells = ((ps.flatMap PT.cells).set (i * 6) (.bool q.ng)).set (i * 6 + 1) (.slice q.A q.ds.length q.c) := by
  induction ps generalizing i with
  | nil => simp at hi
  | cons r ps ih =>
    match i, hi with
    | 0, hi =>
      simp at hi
      subst hi
      simp [PT.cells, hm]
    | i + 1, hi =>
      have h := ih i (by simpa using hi)
      have e1 : (i + 1) * 6 = i * 6 + 6 := by omega
      simp only [List.set_cons_succ, List.flatMap_cons, h, e1]
      have e2 : i * 6 + 6 + 1 = i * 6 + 1 + 6 := by omega
      rw [e2]
      simp [PT.cells]
theorem own_set {w : World} {base n size cap rb : Nat} {e : TypeId} {xs : List Value} (h : w.ownsRow base e size (.slice (some ⟨rb, 0, none⟩) n cap) n xs) (k : Nat) (u : Value) :
    (w.setCell ⟨rb, k, none⟩ u).ownsRow base e size (.slice (some ⟨rb, 0, none⟩) n cap) n (xs.set k u) := by
  obtain ⟨hl, h⟩ := h
  refine ⟨by simpa using hl, .inr ?_⟩
  rcases h with ⟨h, _⟩ | ⟨g, cap', cur, hv, hb, hh, h1, h2, h3, h4⟩
  · cases h
  · injection hv with hv _ hc
    injection hv with hv
    injection hv with hv
    subst hv; subst hc
    have hblk : Blk w rb e cur := hh
    refine ⟨rb, cap, cur.setIfInBounds k u, rfl, hb, hblk.set_ k u, h1, h2, by simpa using h3, ?_⟩
    rw [← h4]
    simp [List.take_set]
theorem own_blk {w : World} {base n size cap rb : Nat} {e : TypeId} {xs : List Value} (h : w.ownsRow base e size (.slice (some ⟨rb, 0, none⟩) n cap) n xs) : ∃ cur, Blk w rb e cur ∧ base ≤ rb ∧ n ≤ cap ∧ ∀ (j : Nat) (u : Value), xs[j]? = some u → cur[j]? = some u := by
  obtain ⟨hl, h⟩ := h
  rcases h with ⟨h, _⟩ | ⟨g, cap', cur, hv, hb, hh, h1, h2, h3, h4⟩
  · cases h
  · injection hv with hv _ hc
    injection hv with hv
    injection hv with hv
    subst hv; subst hc
    refine ⟨cur, hh, hb, h1, fun j u hu => ?_⟩
    rw [← h4, List.getElem?_take] at hu
    split at hu
    · simpa using hu
    · cases hu
theorem IdxOk.set {ps : List PT} {f : Mo → Option Nat} (h : IdxOk ps f) {i : Nat} {p q : PT} (hi : ps[i]? = some p) (hm : q.m = p.m) : IdxOk (ps.set i q) f := by
  refine ⟨fun m j hj => ?_, fun m hm' r hr => ?_⟩
  · obtain ⟨r, hr, e⟩ := h.1 m j hj
    by_cases hij : i = j
    · subst hij
      have hlt : i < ps.length := (List.getElem?_eq_some_iff.1 hi).1
      rw [hi] at hr
      injection hr with hr
      subst hr
      exact ⟨q, by simp [hlt], hm.trans e⟩
    · exact ⟨r, by simp [hij, hr], e⟩
  · rcases List.mem_or_eq_of_mem_set hr with k | k
    · exact h.2 m hm' r k
    · subst k
      rw [hm]
      exact h.2 m hm' p (List.mem_of_getElem? hi)
theorem GAt.upd_len {ps : List PT} {i : Nat} {p : PT} (hi : ps[i]? = some p) : i < ps.length := (List.getElem?_eq_some_iff.1 hi).1
theorem GAt.upd {w : World} {base g mb rb cap : Nat} {v : Value} {ps : List PT} (h : GAt w base g mb v ps) (hv : v = .slice (some ⟨rb, 0, none⟩) ps.length cap) {i : Nat} {p : PT} (hi : ps[i]? = some p) (z : Int) (A : Option Addr) (c : Nat) (hn : NatB w A (dig z.natAbs)) (hc : (dig z.natAbs).length ≤ c) :
    GAt ((w.setCell ⟨rb, i * 6, none⟩ (.bool (decide (z < 0)))).setCell ⟨rb, i * 6 + 1, none⟩ (.slice A (dig z.natAbs).length c)) base g mb v (ps.set i (mkP z A c p.m)) ∧
      GTurn base w ((w.setCell ⟨rb, i * 6, none⟩ (.bool (decide (z < 0)))).setCell ⟨rb, i * 6 + 1, none⟩ (.slice A (dig z.natAbs).length c)) := by
  subst hv
  obtain ⟨cur, hk, hbr, _, _⟩ := own_blk h.row
  have hk' := hk.set_ (i * 6) (.bool (decide (z < 0)))
  have ht : GTurn base w ((w.setCell ⟨rb, i * 6, none⟩ (.bool (decide (z < 0)))).setCell ⟨rb, i * 6 + 1, none⟩ (.slice A (dig z.natAbs).length c)) := (GTurn.set_t hbr hk _).trans (GTurn.set_t hbr hk' _)
  have hgr : g ≠ rb := by
    rintro rfl
    have := h.gb
    unfold Blk at this hk
    rw [hk] at this
    injection this with this
    injection this with _ e
    exact absurd e (by decide)
  refine ⟨⟨?_, ?_, ?_, ?_, ?_, h.lg, h.lm⟩, ht⟩
  · exact (h.gb.far hgr _).far hgr _
  · obtain ⟨f, h1, h2⟩ := h.mp
    have hne := h1.ne_blk hk
    exact ⟨f, by rw [List.length_set]; exact (h1.set_ hne _).set_ hne _, h2.set hi rfl⟩
  · rw [flat_set ps i p (mkP z A c p.m) hi rfl, List.length_set]
    exact own_set (own_set h.row _ _) _ _
  · intro q hq
    rcases List.mem_or_eq_of_mem_set hq with k | k
    · exact ⟨ht.natB (h.dg q k).1, (h.dg q k).2⟩
    · subst k
      exact ⟨ht.natB hn, hc⟩
  · intro q hq
    rcases List.mem_or_eq_of_mem_set hq with k | k
    · exact h.cn q k
    · subst k; exact mkP_cn _ _ _ _
theorem natB_nin {w : World} {A : Option Addr} {c : Nat} {v : Nat} (h : NatB w A (dig v)) (hc : (dig v).length ≤ c) : NatIn w w.heap.size A c (dig v) := ⟨h.reads, dig_dig v, hc⟩
theorem GAt.nin {w : World} {base g mb : Nat} {v : Value} {ps : List PT} (h : GAt w base g mb v ps) {p : PT} (hp : p ∈ ps) : NatIn w w.heap.size p.A p.c p.ds := by
  obtain ⟨h1, h2⟩ := h.dg p hp
  have e := (h.cn p hp).ds
  exact ⟨h1.reads, by rw [e]; exact dig_dig _, h2⟩
end Go.Proofs.Ytpbapoanjkekmaa
