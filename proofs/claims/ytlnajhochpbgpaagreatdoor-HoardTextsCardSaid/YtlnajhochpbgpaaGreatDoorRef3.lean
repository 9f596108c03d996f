/- The reference's naturals: DivMod. -/
import Derived.Test.YtlnajhochpbgpaaGreatDoorRef2
import Derived.Test.YtlnajhochpbgpaaGreatDoorHoist
namespace Go.Proofs.YtlnajhochpbgpaaGreatDoor
open Go.RowKit Go.Proofs Go

theorem BL.four (w : World) (c c' c2 c3 : Array Value) (T T' T2 T3 : TypeId) : BL w ((((w.alloc (.cells c T)).alloc (.cells c' T')).alloc (.cells c2 T2)).alloc (.cells c3 T3)) [(w.heap.size, c, T), (w.heap.size + 1, c', T'), (w.heap.size + 2, c2, T2), (w.heap.size + 3, c3, T3)] := by
  have := (BL.three w c c' c2 T T' T2).new c3 T3
  simpa using this
theorem BL.pre {w W : World} {L M : List (Nat × Array Value × TypeId)} (h : BL w W (L ++ M)) : BL w W L :=
  ⟨h.below, fun i p hp => h.blk i p (by rw [List.getElem?_append_left (List.getElem?_eq_some_iff.1 hp).1]; exact hp)⟩
theorem BL.take {w W : World} {L : List (Nat × Array Value × TypeId)} (h : BL w W L) (k : Nat) : BL w W (L.take k) :=
  ⟨h.below, fun i p hp => h.blk i p (by
    rw [List.getElem?_take] at hp
    split at hp
    · exact hp
    · cases hp)⟩
theorem BL.far {w W : World} {L : List (Nat × Array Value × TypeId)} (h : BL w W L) {p : Addr} (hp : w.heap.size ≤ p.block) (hne : ∀ (k : Nat) (q : Nat × Array Value × TypeId), L[k]? = some q → q.1 ≠ p.block) (v : Value) : BL w (W.setCell p v) L :=
  ⟨h.below.setCell hp v, fun k q hk => by rw [Below.heap_setCell _ _ _ _ (hne k q hk)]; exact h.blk k q hk⟩
theorem guess_ge {P Y n : Nat} (hn : n = (dig Y).length) (hY : 0 < Y) (hP : P < 1000000000 * Y) {g0 : Nat} (h0 : (dig P).length ≤ n → g0 = 0) (h1 : (dig P).length = n + 1 → g0 = at_ (dig P) n * 1000000000) (hge : n ≤ (dig P).length) :
    P / Y ≤ min ((g0 + at_ (dig P) (n - 1)) / at_ (dig Y) (n - 1)) 999999999 ∧ 0 < at_ (dig Y) (n - 1) := by
  have hn0 : 0 < n := by rw [hn]; exact dig_len_pos.2 hY
  have hlen : (dig P).length ≤ n + 1 := dig_len_le (Nat.lt_of_lt_of_le hP (by rw [pw_succ]; exact Nat.mul_le_mul_left _ (by rw [hn]; exact Nat.le_of_lt (dig_lt Y))))
  have htop : 0 < at_ (dig Y) (n - 1) := by have := dig_top hY; rw [← hn] at this; omega
  have hd : P / pw (n - 1) = g0 + at_ (dig P) (n - 1) := by
    by_cases e : (dig P).length = n + 1
    · rw [h1 e, dig_last2 P (k := n - 1) (by omega), show n - 1 + 1 = n by omega]
    · rw [h0 (by omega), dig_last P (k := n - 1) (by omega), Nat.zero_add]
  have hq : P / Y < 1000000000 := by rw [Nat.div_lt_iff_lt_mul hY]; exact hP
  refine ⟨Nat.le_min.2 ⟨?_, by omega⟩, htop⟩
  rw [Nat.le_div_iff_mul_le htop, ← hd]
  by_cases hYP : Y ≤ P
  · exact top_digit hn hY hYP
  · rw [Nat.div_eq_of_lt (by omega), Nat.zero_mul]; exact Nat.zero_le _
theorem small_quot {P Y n : Nat} (hn : n = (dig Y).length) (hlt : (dig P).length < n) : P / Y ≤ 0 := by
  rw [Nat.div_eq_of_lt (lt_of_len (by omega))]; exact Nat.le_refl _
theorem Own.far {w : World} {B T g n c : Nat} {xs : List Value} (h : Own w B T (some ⟨g, 0, none⟩) n c xs) {p : Addr} (hp : p.block ≠ g) (v : Value) : Own (w.setCell p v) B T (some ⟨g, 0, none⟩) n c xs := by
  refine ⟨h.1, ?_⟩
  rcases h.2 with ⟨hv, h0⟩ | ⟨g', cap, cur, hv, h1, h2, h3⟩
  · exact .inl ⟨hv, h0⟩
  · refine .inr ⟨g', cap, cur, hv, h1, ?_, h3⟩
    have : g' = g := by injection hv with e; injection e with e; injection e with e; exact e.symm
    rw [Below.heap_setCell _ _ _ _ (by rw [this]; exact Ne.symm hp)]; exact h2
theorem Own.lt {w : World} {B T g n c : Nat} {xs : List Value} (h : Own w B T (some ⟨g, 0, none⟩) n c xs) : g < w.heap.size := (World.ownsRow.lt h _ rfl).2
end Go.Proofs.YtlnajhochpbgpaaGreatDoor
