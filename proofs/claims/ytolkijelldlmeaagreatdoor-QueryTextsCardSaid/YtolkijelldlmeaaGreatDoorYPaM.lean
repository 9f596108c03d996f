/- The program's Parse. -/
import Derived.Test.YtolkijelldlmeaaGreatDoorYPpM
import Derived.Laws.DeepStrings4
namespace Go.Proofs.YtolkijelldlmeaaGreatDoor
open Go.RowKit Go.Proofs Go

namespace Tm
/-- the byte of a word -/
def WB (c : UInt8) : Prop := (97 ≤ c.toNat ∧ c.toNat ≤ 122) ∨ (65 ≤ c.toNat ∧ c.toNat ≤ 90) ∨ (48 ≤ c.toNat ∧ c.toNat ≤ 57)
theorem isW_tells (c : UInt8) : Tells (isW c) (WB c) := by
  unfold Tells isW WB
  simp only [Bool.or_eq_true, Bool.and_eq_true, decide_eq_true_eq, UInt8.le_iff_toNat_le]
  constructor
  · rintro ((h | h) | h)
    · exact .inl h
    · exact .inr (.inl h)
    · exact .inr (.inr h)
  · rintro (h | h | h)
    · exact .inl (.inl h)
    · exact .inl (.inr h)
    · exact .inr h
end Tm
theorem str_sub (l : List UInt8) (j k : Nat) : (str l).extract j k = str ((l.take k).drop j) := by
  apply ByteArray.ext
  simp [str, List.drop_take]
theorem slice_h {L : List UInt8} {j k : Nat} (hj : j ≤ k) (hk : k ≤ L.length) (w : World) : (Instr.slice 9 (.string (str L)) (some (.int .i64 (j : Int))) (some (.int .i64 (k : Int))) none).run Tryz.prog w = .ok (.string (str ((L.take k).drop j))) w := by
  have h1 : (k : Int) ≤ ((str L).size : Int) := by rw [str_size]; omega
  have h2 : (j : Int) ≤ (k : Int) := by omega
  rw [run_slice_string_if w _ _ _ _ _ _ Tryz.underlying9, if_pos ⟨by omega, h1⟩, if_pos ⟨by omega, h2⟩, Int.toNat_natCast, Int.toNat_natCast, str_sub]
theorem take_drop_cons {L : List UInt8} {j k j1 : Nat} {c : UInt8} (h : L[j]? = some c) (e : Hid (j1 = j + 1)) (hk : j < k) : (L.take k).drop j = c :: (L.drop j1).take (k - j1) := by
  rw [e.out]
  obtain ⟨hj, h2⟩ := List.getElem?_eq_some_iff.1 h
  rw [List.drop_take, List.drop_eq_getElem_cons hj, h2, show k - j = (k - (j + 1)) + 1 by omega, List.take_succ_cons]
theorem drop_cons_of {L : List UInt8} {j j1 : Nat} {c : UInt8} (h : L[j]? = some c) (e : Hid (j1 = j + 1)) : L.drop j = c :: L.drop j1 := by
  rw [e.out]
  obtain ⟨hj, h2⟩ := List.getElem?_eq_some_iff.1 h
  rw [List.drop_eq_getElem_cons hj, h2]
set_option maxHeartbeats 2000000 in
set_option maxRecDepth 100000 in
theorem qword_any {c : UInt8} {b : Bool} (w : World) (hb : Tells b (Tm.WB c)) : Calls Tryz.prog 183 #[.int .u8 (c.toNat : Int)] w fun e w' => e = .returned (.bool b) ∧ w' = w := by
  unfold Tm.WB at hb
  have hc : c.toNat < 256 := c.toNat_lt
  go_enter Tryz.func183, Tryz.ntmps183
  rcases (show (97 ≤ c.toNat ∧ c.toNat ≤ 122) ∨ (122 < c.toNat) ∨ (65 ≤ c.toNat ∧ c.toNat ≤ 90) ∨ (90 < c.toNat ∧ c.toNat < 97) ∨ (48 ≤ c.toNat ∧ c.toNat ≤ 57) ∨ (57 < c.toNat ∧ c.toNat < 65) ∨ (c.toNat < 48) by omega) with h | h | h | h | h | h | h
  · obtain rfl : b = true := hb.t (by omega)
    clear hb
    have d97 : decide ((97 : Int) ≤ (c.toNat : Int)) = true := decide_eq_true (by omega)
    have d122 : decide ((c.toNat : Int) ≤ 122) = true := decide_eq_true (by omega)
    have d65 : decide ((65 : Int) ≤ (c.toNat : Int)) = true := decide_eq_true (by omega)
    have d90 : decide ((c.toNat : Int) ≤ 90) = false := decide_eq_false (by omega)
    have d48 : decide ((48 : Int) ≤ (c.toNat : Int)) = true := decide_eq_true (by omega)
    have d57 : decide ((c.toNat : Int) ≤ 57) = false := decide_eq_false (by omega)
    go_wp2
    go_ret
    exact ⟨rfl, rfl⟩
  · obtain rfl : b = false := hb.f (by omega)
    clear hb
    have d97 : decide ((97 : Int) ≤ (c.toNat : Int)) = true := decide_eq_true (by omega)
    have d122 : decide ((c.toNat : Int) ≤ 122) = false := decide_eq_false (by omega)
    have d65 : decide ((65 : Int) ≤ (c.toNat : Int)) = true := decide_eq_true (by omega)
    have d90 : decide ((c.toNat : Int) ≤ 90) = false := decide_eq_false (by omega)
    have d48 : decide ((48 : Int) ≤ (c.toNat : Int)) = true := decide_eq_true (by omega)
    have d57 : decide ((c.toNat : Int) ≤ 57) = false := decide_eq_false (by omega)
    go_wp2
    go_ret
    exact ⟨rfl, rfl⟩
  · obtain rfl : b = true := hb.t (by omega)
    clear hb
    have d97 : decide ((97 : Int) ≤ (c.toNat : Int)) = false := decide_eq_false (by omega)
    have d122 : decide ((c.toNat : Int) ≤ 122) = true := decide_eq_true (by omega)
    have d65 : decide ((65 : Int) ≤ (c.toNat : Int)) = true := decide_eq_true (by omega)
    have d90 : decide ((c.toNat : Int) ≤ 90) = true := decide_eq_true (by omega)
    have d48 : decide ((48 : Int) ≤ (c.toNat : Int)) = true := decide_eq_true (by omega)
    have d57 : decide ((c.toNat : Int) ≤ 57) = false := decide_eq_false (by omega)
    go_wp2
    go_ret
    exact ⟨rfl, rfl⟩
  · obtain rfl : b = false := hb.f (by omega)
    clear hb
    have d97 : decide ((97 : Int) ≤ (c.toNat : Int)) = false := decide_eq_false (by omega)
    have d122 : decide ((c.toNat : Int) ≤ 122) = true := decide_eq_true (by omega)
    have d65 : decide ((65 : Int) ≤ (c.toNat : Int)) = true := decide_eq_true (by omega)
    have d90 : decide ((c.toNat : Int) ≤ 90) = false := decide_eq_false (by omega)
    have d48 : decide ((48 : Int) ≤ (c.toNat : Int)) = true := decide_eq_true (by omega)
    have d57 : decide ((c.toNat : Int) ≤ 57) = false := decide_eq_false (by omega)
    go_wp2
    go_ret
    exact ⟨rfl, rfl⟩
  · obtain rfl : b = true := hb.t (by omega)
    clear hb
    have d97 : decide ((97 : Int) ≤ (c.toNat : Int)) = false := decide_eq_false (by omega)
    have d122 : decide ((c.toNat : Int) ≤ 122) = true := decide_eq_true (by omega)
    have d65 : decide ((65 : Int) ≤ (c.toNat : Int)) = false := decide_eq_false (by omega)
    have d90 : decide ((c.toNat : Int) ≤ 90) = true := decide_eq_true (by omega)
    have d48 : decide ((48 : Int) ≤ (c.toNat : Int)) = true := decide_eq_true (by omega)
    have d57 : decide ((c.toNat : Int) ≤ 57) = true := decide_eq_true (by omega)
    go_wp2
    go_ret
    exact ⟨rfl, rfl⟩
  · obtain rfl : b = false := hb.f (by omega)
    clear hb
    have d97 : decide ((97 : Int) ≤ (c.toNat : Int)) = false := decide_eq_false (by omega)
    have d122 : decide ((c.toNat : Int) ≤ 122) = true := decide_eq_true (by omega)
    have d65 : decide ((65 : Int) ≤ (c.toNat : Int)) = false := decide_eq_false (by omega)
    have d90 : decide ((c.toNat : Int) ≤ 90) = true := decide_eq_true (by omega)
    have d48 : decide ((48 : Int) ≤ (c.toNat : Int)) = true := decide_eq_true (by omega)
    have d57 : decide ((c.toNat : Int) ≤ 57) = false := decide_eq_false (by omega)
    go_wp2
    go_ret
    exact ⟨rfl, rfl⟩
  · obtain rfl : b = false := hb.f (by omega)
    clear hb
    have d97 : decide ((97 : Int) ≤ (c.toNat : Int)) = false := decide_eq_false (by omega)
    have d122 : decide ((c.toNat : Int) ≤ 122) = true := decide_eq_true (by omega)
    have d65 : decide ((65 : Int) ≤ (c.toNat : Int)) = false := decide_eq_false (by omega)
    have d90 : decide ((c.toNat : Int) ≤ 90) = true := decide_eq_true (by omega)
    have d48 : decide ((48 : Int) ≤ (c.toNat : Int)) = false := decide_eq_false (by omega)
    have d57 : decide ((c.toNat : Int) ≤ 57) = true := decide_eq_true (by omega)
    go_wp2
    go_ret
    exact ⟨rfl, rfl⟩
/-- the words of a string are returned, or that there are none -/
def RetTk (w : World) (n : Nat) (x : Option (List Tok)) (e : Ending) (w' : World) : Prop := ∃ (A : Option Addr) (c : Nat) (ws : List Tok) (ok : Bool), e = .returned (.tuple #[.slice A ws.length c, .bool ok]) ∧ SOwn w' w.heap.size A c ws ∧ Hid ((ok = true ∧ x = some ws) ∨ (ok = false ∧ x = none)) ∧ ws.length ≤ n ∧ (∀ y ∈ ws, y.length ≤ 1000000000) ∧ Below w.heap.size w w'
theorem tokR_bad {c : UInt8} {l : List UInt8} (h1 : c ≠ 32) (h2 : Tm.isW c = false) (h3 : c ≠ 61 ∧ c ≠ 60 ∧ c ≠ 62 ∧ c ≠ 40 ∧ c ≠ 41) (h4 : c = 33 → l.head? ≠ some 61) : Tm.tokR (c :: l) = none := by
  rw [Tm.tokR, if_neg h1, if_neg (by rw [h2]; decide), if_neg, if_neg]
  · rintro (h | h | h | h | h)
    · exact h3.1 h
    · exact h3.2.1 h
    · exact h3.2.2.1 h
    · exact h3.2.2.2.1 h
    · exact h3.2.2.2.2 h
  · rintro ⟨h | h | h, h5⟩
    · exact h4 h h5
    · exact h3.2.1 h
    · exact h3.2.2.1 h
theorem goes_on {L : List UInt8} {j k : Nat} {out : List Tok} {t : Tok} {x : Option (List Tok)} (h : (Tm.tokR (L.drop j)).map (fun y => out ++ y) = x) (h2 : Tm.tokR (L.drop j) = (Tm.tokR (L.drop k)).map fun y => t :: y) : (Tm.tokR (L.drop k)).map (fun y => (out ++ [t]) ++ y) = x := by
  rw [h2, Option.map_map] at h
  rw [← h]
  congr 1
  funext y
  simp
set_option maxHeartbeats 8000000 in
set_option maxRecDepth 100000 in
theorem qtokens_any {L : List UInt8} {x0 : Option (List Tok)} (w : World) (hx0 : Hid (Tm.tokR L = x0)) (hL : L.length ≤ 2000) :
    Calls Tryz.prog 99 #[.string (str L)] w (RetTk w L.length x0) := by
  have hsz : (str L).size = L.length := str_size L
  go_enter Tryz.func99, Tryz.ntmps99
  go_wp2
  go_loopg [4, 6, 7, 8] L.length (fun g u i _ _ wr => ∃ (j : Nat) (A8 : Option Addr) (c8 : Nat) (out : List Tok), L.length ≤ j + g ∧ j ≤ L.length ∧ i = .int .i64 (j : Int) ∧ u = .slice A8 out.length c8 ∧ SOwn wr w.heap.size A8 c8 out ∧ Hid ((Tm.tokR (L.drop j)).map (fun y => out ++ y) = x0) ∧ out.length ≤ j ∧ Hid (∀ y ∈ out, y.length ≤ 1000000000) ∧ Below w.heap.size w wr)
  case atStart => exact ⟨0, none, 0, [], by omega, Nat.zero_le _, rfl, rfl, SOwn.nil w w.heap.size, Lib.hid (by rw [List.drop_zero, ← hx0.out]; cases Tm.tokR L <;> rfl), Nat.le_refl _, Lib.hid (by simp), Below.refl _ _⟩
  case round =>
    obtain ⟨j, A8, c8, out, hj, hjL, rfl, rfl, HOWN, hout, hol, hsm, hbw⟩ := hrel
    have hbs := hbw.size
    by_cases hj0 : j < L.length
    · obtain ⟨j1, hA, hB⟩ : ∃ j1 : Nat, j + 1 ≤ j1 ∧ j1 ≤ j + 1 := ⟨j + 1, Nat.le_refl _, Nat.le_refl _⟩
      obtain ⟨j2, hA2, hB2⟩ : ∃ j2 : Nat, j1 + 1 ≤ j2 ∧ j2 ≤ j1 + 1 := ⟨j1 + 1, Nat.le_refl _, Nat.le_refl _⟩
      have e1 := Lib.hid (show j1 = j + 1 by omega)
      have e2 := Lib.hid (show j2 = j1 + 1 by omega)
      have hc1 : (j : Int) + 1 = (j1 : Int) := by omega
      have hc2 : (j1 : Int) + 1 = (j2 : Int) := by omega
      obtain ⟨x, hx⟩ : ∃ x, Hid (L[j]? = some x) := ⟨_, Lib.hid (List.getElem?_eq_getElem hj0)⟩
      have hix : ∀ h, (str L)[j]'h = x := fun h => by
        obtain ⟨h1, h2⟩ := List.getElem?_eq_some_iff.1 hx.out
        exact h2
      have hdr := Lib.hid (drop_cons_of hx.out e1)
      have hxl : x.toNat < 256 := x.toNat_lt
      by_cases h32 : x.toNat = 32
      · have h32' : x = 32 := UInt8.toNat_inj.1 h32
        have hnx := Lib.hid (show (Tm.tokR (L.drop j1)).map (fun y => out ++ y) = x0 by rw [← hout.out, hdr.out, h32', Tm.tokR_space])
        have q32 : ((x.toNat : Int) == 32) = true := by rw [show x.toNat = 32 by omega]; rfl
        have q40 : ((x.toNat : Int) == 40) = false := beq_eq_false_iff_ne.2 (by omega)
        have q41 : ((x.toNat : Int) == 41) = false := beq_eq_false_iff_ne.2 (by omega)
        have q61 : ((x.toNat : Int) == 61) = false := beq_eq_false_iff_ne.2 (by omega)
        have q60 : ((x.toNat : Int) == 60) = false := beq_eq_false_iff_ne.2 (by omega)
        have q62 : ((x.toNat : Int) == 62) = false := beq_eq_false_iff_ne.2 (by omega)
        have q33 : ((x.toNat : Int) == 33) = false := beq_eq_false_iff_ne.2 (by omega)
        clear h32 h32' hdr hout
        go_wp2
        go_roundg (L.length - j1)
        case measure => omega
        case rel => exact ⟨j1, A8, c8, out, by omega, by omega, by first | rfl | go_num, rfl, HOWN, hnx, by omega, hsm, hbw⟩
      · have hW := Tm.isW_tells x
        by_cases hwb : Tm.WB x
        · have hxw := Lib.hid (hW.t hwb)
          have hb := yes hwb
          have q32 : ((x.toNat : Int) == 32) = false := beq_eq_false_iff_ne.2 (by omega)
          clear h32 hW hwb
          go_wp2_with fail
          refine (qword_any wr hb).mono ?_
          rintro e w4 ⟨rfl, hw4⟩
          obtain rfl : wr = w4 := hw4.symm
          go_wp2
          go_loopg [7] (L.length - j1) (fun g k wi => ∃ m : Nat, m + g = L.length ∧ j1 ≤ m ∧ k = .int .i64 (m : Int) ∧ Hid ((L.drop j1).takeWhile Tm.isW = (L.drop j1).take (m - j1) ++ (L.drop m).takeWhile Tm.isW ∧ (L.drop j1).dropWhile Tm.isW = (L.drop m).dropWhile Tm.isW) ∧ wi = wr)
          case atStart => exact ⟨j1, by omega, Nat.le_refl _, rfl, Lib.hid (by simp), rfl⟩
          case round =>
            obtain ⟨m, hm, hjm, rfl, htw, rfl⟩ := hrel
            by_cases hml : m < L.length
            · obtain ⟨y, hy⟩ : ∃ y, Hid (L[m]? = some y) := ⟨_, Lib.hid (List.getElem?_eq_getElem hml)⟩
              have hiy : ∀ h, (str L)[m]'h = y := fun h => by
                obtain ⟨h1, h2⟩ := List.getElem?_eq_some_iff.1 hy.out
                exact h2
              have hdy := Lib.hid (drop_cons_of hy.out (Lib.hid rfl : Hid (m + 1 = m + 1)))
              have hyl : y.toNat < 256 := y.toNat_lt
              have hWy := Tm.isW_tells y
              by_cases hyb : Tm.WB y
              · have hb2 := yes hyb
                have htw2 := Lib.hid (show (L.drop j1).takeWhile Tm.isW = (L.drop j1).take (m + 1 - j1) ++ (L.drop (m + 1)).takeWhile Tm.isW ∧ (L.drop j1).dropWhile Tm.isW = (L.drop (m + 1)).dropWhile Tm.isW by
                  have h1 := htw.out
                  rw [hdy.out, List.takeWhile_cons, List.dropWhile_cons, if_pos (hWy.t hyb), if_pos (hWy.t hyb)] at h1
                  refine ⟨?_, h1.2⟩
                  have h3 : (L.drop j1)[m - j1]? = some y := by rw [List.getElem?_drop, show j1 + (m - j1) = m by omega]; exact hy.out
                  obtain ⟨h4, h5⟩ := List.getElem?_eq_some_iff.1 h3
                  rw [h1.1, show m + 1 - j1 = (m - j1) + 1 by omega, List.take_succ_eq_append_getElem h4, h5]; simp)
                clear htw hyb hWy hdy hy
                go_wp2_with fail
                refine (qword_any wr hb2).mono ?_
                rintro e w4 ⟨rfl, hw4⟩
                obtain rfl : wr = w4 := hw4.symm
                go_wp2
                go_roundg (L.length - (m + 1))
                case measure => omega
                case rel => exact ⟨m + 1, by omega, by omega, by go_num, htw2, rfl⟩
              · have hb2 := no hyb
                have hnx := Lib.hid (goes_on (k := m) (t := (L.take m).drop j) hout.out (by
                  have h1 := htw.out
                  rw [hdy.out, List.takeWhile_cons, List.dropWhile_cons, if_neg (by rw [hWy.f hyb]; decide), if_neg (by rw [hWy.f hyb]; decide), List.append_nil] at h1
                  rw [hdr.out, Tm.tokR_word _ _ hxw.out, h1.1, h1.2, ← hdy.out, take_drop_cons hx.out e1 (by omega)]))
                clear htw hyb hWy hdy hy
                go_wp2_with fail
                refine (qword_any wr hb2).mono ?_
                rintro e w4 ⟨rfl, hw4⟩
                obtain rfl : wr = w4 := hw4.symm
                have xS := slice_h (L := L) (j := j) (k := (m)) (by omega) (by omega)
                have htl := Lib.hid (show ((L.take (m)).drop j).length ≤ 1000000000 by rw [List.length_drop, List.length_take]; omega)
                have hsm2 := Lib.hid (show ∀ y ∈ out ++ [(L.take (m)).drop j], y.length ≤ 1000000000 from fun y hy => by
                  rcases List.mem_append.1 hy with h | h
                  · exact hsm.out y h
                  · rw [List.mem_singleton.1 h]; exact htl.out)
                clear htl hsm hout hdr hx
                go_wp2_with (at_builtin; refine wp_push ES _ rfl _ _ rfl rfl rfl HOWN (by rfl) (by omega) (by omega) hbs ?_; intro A7 c7 w7 hown7 hgr hbl hlt)
                clear xS
                replace hown7 := SOwn.snoc hown7 rfl
                go_roundg (L.length - (m))
                case measure => omega
                case rel => exact ⟨m, A7, c7, out ++ [(L.take (m)).drop j], by omega, by omega, by first | rfl | go_num, by rw [List.length_append]; rfl, hown7, hnx, by rw [List.length_append, List.length_singleton]; omega, hsm2, hbw.trans hbl⟩
            · have hM := Lib.hid (show m = L.length by omega)
              have hml2 : decide ((m : Int) < (L.length : Int)) = false := decide_eq_false (by omega)
              have hnx := Lib.hid (goes_on (k := m) (t := (L.take m).drop j) hout.out (by
                have h1 := htw.out
                have h2 : L.drop m = [] := List.drop_eq_nil_of_le (by omega)
                rw [h2] at h1
                rw [hdr.out, Tm.tokR_word _ _ hxw.out, h1.1, h1.2, h2, List.takeWhile_nil, List.append_nil, List.dropWhile_nil, take_drop_cons hx.out e1 (by omega)]))
              clear htw
              have xS := slice_h (L := L) (j := j) (k := (m)) (by omega) (by omega)
              have htl := Lib.hid (show ((L.take (m)).drop j).length ≤ 1000000000 by rw [List.length_drop, List.length_take]; omega)
              have hsm2 := Lib.hid (show ∀ y ∈ out ++ [(L.take (m)).drop j], y.length ≤ 1000000000 from fun y hy => by
                rcases List.mem_append.1 hy with h | h
                · exact hsm.out y h
                · rw [List.mem_singleton.1 h]; exact htl.out)
              clear htl hsm hout hdr hx
              go_wp2_with (at_builtin; refine wp_push ES _ rfl _ _ rfl rfl rfl HOWN (by rfl) (by omega) (by omega) hbs ?_; intro A7 c7 w7 hown7 hgr hbl hlt)
              clear xS
              replace hown7 := SOwn.snoc hown7 rfl
              go_roundg (L.length - (m))
              case measure => omega
              case rel => exact ⟨m, A7, c7, out ++ [(L.take (m)).drop j], by omega, by omega, by first | rfl | go_num, by rw [List.length_append]; rfl, hown7, hnx, by rw [List.length_append, List.length_singleton]; omega, hsm2, hbw.trans hbl⟩
        · have hxw := Lib.hid (hW.f hwb)
          have hb := no hwb
          have hwcall := qword_any wr hb
          have hne : ∀ (n : Nat) (c : UInt8), c.toNat = n → x.toNat ≠ n → x ≠ c := fun n c h1 h2 h3 => h2 (by rw [h3]; exact h1)
          by_cases hone : x.toNat = 40 ∨ x.toNat = 41 ∨ x.toNat = 61
          · have hnx := Lib.hid (goes_on (k := j1) (t := (L.take j1).drop j) hout.out (by
              rw [hdr.out, take_drop_cons hx.out e1 (by omega), Nat.sub_self, List.take_zero]
              refine Tm.tokR_one _ _ ?_
              rcases hone with h | h | h
              · exact .inr (.inl (UInt8.toNat_inj.1 h))
              · exact .inr (.inr (.inl (UInt8.toNat_inj.1 h)))
              · exact .inl (UInt8.toNat_inj.1 h)))
            rcases hone with h | h | h
            · have q32 : ((x.toNat : Int) == 32) = false := beq_eq_false_iff_ne.2 (by omega)
              have q40 : ((x.toNat : Int) == 40) = true := by rw [show x.toNat = 40 by omega]; rfl
              have q41 : ((x.toNat : Int) == 41) = false := beq_eq_false_iff_ne.2 (by omega)
              have q61 : ((x.toNat : Int) == 61) = false := beq_eq_false_iff_ne.2 (by omega)
              have q60 : ((x.toNat : Int) == 60) = false := beq_eq_false_iff_ne.2 (by omega)
              have q62 : ((x.toNat : Int) == 62) = false := beq_eq_false_iff_ne.2 (by omega)
              have q33 : ((x.toNat : Int) == 33) = false := beq_eq_false_iff_ne.2 (by omega)
              clear h h32 hW hwb hb hne
              go_wp2_with fail
              refine hwcall.mono ?_
              rintro e w4 ⟨rfl, hw4⟩
              obtain rfl : wr = w4 := hw4.symm
              have xS := slice_h (L := L) (j := j) (k := (j1)) (by omega) (by omega)
              have htl := Lib.hid (show ((L.take (j1)).drop j).length ≤ 1000000000 by rw [List.length_drop, List.length_take]; omega)
              have hsm2 := Lib.hid (show ∀ y ∈ out ++ [(L.take (j1)).drop j], y.length ≤ 1000000000 from fun y hy => by
                rcases List.mem_append.1 hy with h | h
                · exact hsm.out y h
                · rw [List.mem_singleton.1 h]; exact htl.out)
              clear htl hsm hout hdr hx
              go_wp2_with (at_builtin; refine wp_push ES _ rfl _ _ rfl rfl rfl HOWN (by rfl) (by omega) (by omega) hbs ?_; intro A7 c7 w7 hown7 hgr hbl hlt)
              clear xS
              replace hown7 := SOwn.snoc hown7 rfl
              go_roundg (L.length - (j1))
              case measure => omega
              case rel => exact ⟨j1, A7, c7, out ++ [(L.take (j1)).drop j], by omega, by omega, by first | rfl | go_num, by rw [List.length_append]; rfl, hown7, hnx, by rw [List.length_append, List.length_singleton]; omega, hsm2, hbw.trans hbl⟩
            · have q32 : ((x.toNat : Int) == 32) = false := beq_eq_false_iff_ne.2 (by omega)
              have q40 : ((x.toNat : Int) == 40) = false := beq_eq_false_iff_ne.2 (by omega)
              have q41 : ((x.toNat : Int) == 41) = true := by rw [show x.toNat = 41 by omega]; rfl
              have q61 : ((x.toNat : Int) == 61) = false := beq_eq_false_iff_ne.2 (by omega)
              have q60 : ((x.toNat : Int) == 60) = false := beq_eq_false_iff_ne.2 (by omega)
              have q62 : ((x.toNat : Int) == 62) = false := beq_eq_false_iff_ne.2 (by omega)
              have q33 : ((x.toNat : Int) == 33) = false := beq_eq_false_iff_ne.2 (by omega)
              clear h h32 hW hwb hb hne
              go_wp2_with fail
              refine hwcall.mono ?_
              rintro e w4 ⟨rfl, hw4⟩
              obtain rfl : wr = w4 := hw4.symm
              have xS := slice_h (L := L) (j := j) (k := (j1)) (by omega) (by omega)
              have htl := Lib.hid (show ((L.take (j1)).drop j).length ≤ 1000000000 by rw [List.length_drop, List.length_take]; omega)
              have hsm2 := Lib.hid (show ∀ y ∈ out ++ [(L.take (j1)).drop j], y.length ≤ 1000000000 from fun y hy => by
                rcases List.mem_append.1 hy with h | h
                · exact hsm.out y h
                · rw [List.mem_singleton.1 h]; exact htl.out)
              clear htl hsm hout hdr hx
              go_wp2_with (at_builtin; refine wp_push ES _ rfl _ _ rfl rfl rfl HOWN (by rfl) (by omega) (by omega) hbs ?_; intro A7 c7 w7 hown7 hgr hbl hlt)
              clear xS
              replace hown7 := SOwn.snoc hown7 rfl
              go_roundg (L.length - (j1))
              case measure => omega
              case rel => exact ⟨j1, A7, c7, out ++ [(L.take (j1)).drop j], by omega, by omega, by first | rfl | go_num, by rw [List.length_append]; rfl, hown7, hnx, by rw [List.length_append, List.length_singleton]; omega, hsm2, hbw.trans hbl⟩
            · have q32 : ((x.toNat : Int) == 32) = false := beq_eq_false_iff_ne.2 (by omega)
              have q40 : ((x.toNat : Int) == 40) = false := beq_eq_false_iff_ne.2 (by omega)
              have q41 : ((x.toNat : Int) == 41) = false := beq_eq_false_iff_ne.2 (by omega)
              have q61 : ((x.toNat : Int) == 61) = true := by rw [show x.toNat = 61 by omega]; rfl
              have q60 : ((x.toNat : Int) == 60) = false := beq_eq_false_iff_ne.2 (by omega)
              have q62 : ((x.toNat : Int) == 62) = false := beq_eq_false_iff_ne.2 (by omega)
              have q33 : ((x.toNat : Int) == 33) = false := beq_eq_false_iff_ne.2 (by omega)
              clear h h32 hW hwb hb hne
              go_wp2_with fail
              refine hwcall.mono ?_
              rintro e w4 ⟨rfl, hw4⟩
              obtain rfl : wr = w4 := hw4.symm
              have xS := slice_h (L := L) (j := j) (k := (j1)) (by omega) (by omega)
              have htl := Lib.hid (show ((L.take (j1)).drop j).length ≤ 1000000000 by rw [List.length_drop, List.length_take]; omega)
              have hsm2 := Lib.hid (show ∀ y ∈ out ++ [(L.take (j1)).drop j], y.length ≤ 1000000000 from fun y hy => by
                rcases List.mem_append.1 hy with h | h
                · exact hsm.out y h
                · rw [List.mem_singleton.1 h]; exact htl.out)
              clear htl hsm hout hdr hx
              go_wp2_with (at_builtin; refine wp_push ES _ rfl _ _ rfl rfl rfl HOWN (by rfl) (by omega) (by omega) hbs ?_; intro A7 c7 w7 hown7 hgr hbl hlt)
              clear xS
              replace hown7 := SOwn.snoc hown7 rfl
              go_roundg (L.length - (j1))
              case measure => omega
              case rel => exact ⟨j1, A7, c7, out ++ [(L.take (j1)).drop j], by omega, by omega, by first | rfl | go_num, by rw [List.length_append]; rfl, hown7, hnx, by rw [List.length_append, List.length_singleton]; omega, hsm2, hbw.trans hbl⟩
          · by_cases hlg : x.toNat = 60 ∨ x.toNat = 62
            · by_cases hj1 : j1 < L.length
              · obtain ⟨y, hy⟩ : ∃ y, Hid (L[j1]? = some y) := ⟨_, Lib.hid (List.getElem?_eq_getElem hj1)⟩
                have hiy : ∀ h, (str L)[j1]'h = y := fun h => by
                  obtain ⟨h1, h2⟩ := List.getElem?_eq_some_iff.1 hy.out
                  exact h2
                have hdy := Lib.hid (drop_cons_of hy.out e2)
                have hyl : y.toNat < 256 := y.toNat_lt
                by_cases hye : y.toNat = 61
                · have hy61 : y = 61 := UInt8.toNat_inj.1 hye
                  have hnx := Lib.hid (goes_on (k := j2) (t := (L.take j2).drop j) hout.out (by
                    rw [hdr.out, take_drop_cons hx.out e1 (by omega), show j2 - j1 = 1 by omega, hdy.out, List.take_succ_cons, List.take_zero, hy61]
                    exact Tm.tokR_two _ _ (hlg.elim (fun h => .inr (.inl (UInt8.toNat_inj.1 h))) (fun h => .inr (.inr (UInt8.toNat_inj.1 h))))))
                  have qy : ((y.toNat : Int) == 61) = true := by rw [hye]; rfl
                  clear hy61 hye hy hdy
                  rcases hlg with h | h
                  · have q32 : ((x.toNat : Int) == 32) = false := beq_eq_false_iff_ne.2 (by omega)
                    have q40 : ((x.toNat : Int) == 40) = false := beq_eq_false_iff_ne.2 (by omega)
                    have q41 : ((x.toNat : Int) == 41) = false := beq_eq_false_iff_ne.2 (by omega)
                    have q61 : ((x.toNat : Int) == 61) = false := beq_eq_false_iff_ne.2 (by omega)
                    have q60 : ((x.toNat : Int) == 60) = true := by rw [show x.toNat = 60 by omega]; rfl
                    have q62 : ((x.toNat : Int) == 62) = false := beq_eq_false_iff_ne.2 (by omega)
                    have q33 : ((x.toNat : Int) == 33) = false := beq_eq_false_iff_ne.2 (by omega)
                    clear h h32 hW hwb hb hne hone
                    go_wp2_with fail
                    refine hwcall.mono ?_
                    rintro e w4 ⟨rfl, hw4⟩
                    obtain rfl : wr = w4 := hw4.symm
                    have xS := slice_h (L := L) (j := j) (k := (j2)) (by omega) (by omega)
                    have htl := Lib.hid (show ((L.take (j2)).drop j).length ≤ 1000000000 by rw [List.length_drop, List.length_take]; omega)
                    have hsm2 := Lib.hid (show ∀ y ∈ out ++ [(L.take (j2)).drop j], y.length ≤ 1000000000 from fun y hy => by
                      rcases List.mem_append.1 hy with h | h
                      · exact hsm.out y h
                      · rw [List.mem_singleton.1 h]; exact htl.out)
                    clear htl hsm hout hdr hx
                    go_wp2_with (at_builtin; refine wp_push ES _ rfl _ _ rfl rfl rfl HOWN (by rfl) (by omega) (by omega) hbs ?_; intro A7 c7 w7 hown7 hgr hbl hlt)
                    clear xS
                    replace hown7 := SOwn.snoc hown7 rfl
                    go_roundg (L.length - (j2))
                    case measure => omega
                    case rel => exact ⟨j2, A7, c7, out ++ [(L.take (j2)).drop j], by omega, by omega, by first | rfl | go_num, by rw [List.length_append]; rfl, hown7, hnx, by rw [List.length_append, List.length_singleton]; omega, hsm2, hbw.trans hbl⟩
                  · have q32 : ((x.toNat : Int) == 32) = false := beq_eq_false_iff_ne.2 (by omega)
                    have q40 : ((x.toNat : Int) == 40) = false := beq_eq_false_iff_ne.2 (by omega)
                    have q41 : ((x.toNat : Int) == 41) = false := beq_eq_false_iff_ne.2 (by omega)
                    have q61 : ((x.toNat : Int) == 61) = false := beq_eq_false_iff_ne.2 (by omega)
                    have q60 : ((x.toNat : Int) == 60) = false := beq_eq_false_iff_ne.2 (by omega)
                    have q62 : ((x.toNat : Int) == 62) = true := by rw [show x.toNat = 62 by omega]; rfl
                    have q33 : ((x.toNat : Int) == 33) = false := beq_eq_false_iff_ne.2 (by omega)
                    clear h h32 hW hwb hb hne hone
                    go_wp2_with fail
                    refine hwcall.mono ?_
                    rintro e w4 ⟨rfl, hw4⟩
                    obtain rfl : wr = w4 := hw4.symm
                    have xS := slice_h (L := L) (j := j) (k := (j2)) (by omega) (by omega)
                    have htl := Lib.hid (show ((L.take (j2)).drop j).length ≤ 1000000000 by rw [List.length_drop, List.length_take]; omega)
                    have hsm2 := Lib.hid (show ∀ y ∈ out ++ [(L.take (j2)).drop j], y.length ≤ 1000000000 from fun y hy => by
                      rcases List.mem_append.1 hy with h | h
                      · exact hsm.out y h
                      · rw [List.mem_singleton.1 h]; exact htl.out)
                    clear htl hsm hout hdr hx
                    go_wp2_with (at_builtin; refine wp_push ES _ rfl _ _ rfl rfl rfl HOWN (by rfl) (by omega) (by omega) hbs ?_; intro A7 c7 w7 hown7 hgr hbl hlt)
                    clear xS
                    replace hown7 := SOwn.snoc hown7 rfl
                    go_roundg (L.length - (j2))
                    case measure => omega
                    case rel => exact ⟨j2, A7, c7, out ++ [(L.take (j2)).drop j], by omega, by omega, by first | rfl | go_num, by rw [List.length_append]; rfl, hown7, hnx, by rw [List.length_append, List.length_singleton]; omega, hsm2, hbw.trans hbl⟩
                · have qy : ((y.toNat : Int) == 61) = false := beq_eq_false_iff_ne.2 (by omega)
                  have hnx := Lib.hid (goes_on (k := j1) (t := (L.take j1).drop j) hout.out (by
                    rw [hdr.out, take_drop_cons hx.out e1 (by omega), Nat.sub_self, List.take_zero]
                    refine Tm.tokR_one _ _ (.inr (.inr (.inr ⟨hlg.elim (fun h => .inl (UInt8.toNat_inj.1 h)) (fun h => .inr (UInt8.toNat_inj.1 h)), ?_⟩)))
                    rw [hdy.out, List.head?_cons]
                    intro h
                    obtain rfl := Option.some.inj h
                    exact hye rfl))
                  clear hye hy hdy
                  rcases hlg with h | h
                  · have q32 : ((x.toNat : Int) == 32) = false := beq_eq_false_iff_ne.2 (by omega)
                    have q40 : ((x.toNat : Int) == 40) = false := beq_eq_false_iff_ne.2 (by omega)
                    have q41 : ((x.toNat : Int) == 41) = false := beq_eq_false_iff_ne.2 (by omega)
                    have q61 : ((x.toNat : Int) == 61) = false := beq_eq_false_iff_ne.2 (by omega)
                    have q60 : ((x.toNat : Int) == 60) = true := by rw [show x.toNat = 60 by omega]; rfl
                    have q62 : ((x.toNat : Int) == 62) = false := beq_eq_false_iff_ne.2 (by omega)
                    have q33 : ((x.toNat : Int) == 33) = false := beq_eq_false_iff_ne.2 (by omega)
                    clear h h32 hW hwb hb hne hone
                    go_wp2_with fail
                    refine hwcall.mono ?_
                    rintro e w4 ⟨rfl, hw4⟩
                    obtain rfl : wr = w4 := hw4.symm
                    have xS := slice_h (L := L) (j := j) (k := (j1)) (by omega) (by omega)
                    have htl := Lib.hid (show ((L.take (j1)).drop j).length ≤ 1000000000 by rw [List.length_drop, List.length_take]; omega)
                    have hsm2 := Lib.hid (show ∀ y ∈ out ++ [(L.take (j1)).drop j], y.length ≤ 1000000000 from fun y hy => by
                      rcases List.mem_append.1 hy with h | h
                      · exact hsm.out y h
                      · rw [List.mem_singleton.1 h]; exact htl.out)
                    clear htl hsm hout hdr hx
                    go_wp2_with (at_builtin; refine wp_push ES _ rfl _ _ rfl rfl rfl HOWN (by rfl) (by omega) (by omega) hbs ?_; intro A7 c7 w7 hown7 hgr hbl hlt)
                    clear xS
                    replace hown7 := SOwn.snoc hown7 rfl
                    go_roundg (L.length - (j1))
                    case measure => omega
                    case rel => exact ⟨j1, A7, c7, out ++ [(L.take (j1)).drop j], by omega, by omega, by first | rfl | go_num, by rw [List.length_append]; rfl, hown7, hnx, by rw [List.length_append, List.length_singleton]; omega, hsm2, hbw.trans hbl⟩
                  · have q32 : ((x.toNat : Int) == 32) = false := beq_eq_false_iff_ne.2 (by omega)
                    have q40 : ((x.toNat : Int) == 40) = false := beq_eq_false_iff_ne.2 (by omega)
                    have q41 : ((x.toNat : Int) == 41) = false := beq_eq_false_iff_ne.2 (by omega)
                    have q61 : ((x.toNat : Int) == 61) = false := beq_eq_false_iff_ne.2 (by omega)
                    have q60 : ((x.toNat : Int) == 60) = false := beq_eq_false_iff_ne.2 (by omega)
                    have q62 : ((x.toNat : Int) == 62) = true := by rw [show x.toNat = 62 by omega]; rfl
                    have q33 : ((x.toNat : Int) == 33) = false := beq_eq_false_iff_ne.2 (by omega)
                    clear h h32 hW hwb hb hne hone
                    go_wp2_with fail
                    refine hwcall.mono ?_
                    rintro e w4 ⟨rfl, hw4⟩
                    obtain rfl : wr = w4 := hw4.symm
                    have xS := slice_h (L := L) (j := j) (k := (j1)) (by omega) (by omega)
                    have htl := Lib.hid (show ((L.take (j1)).drop j).length ≤ 1000000000 by rw [List.length_drop, List.length_take]; omega)
                    have hsm2 := Lib.hid (show ∀ y ∈ out ++ [(L.take (j1)).drop j], y.length ≤ 1000000000 from fun y hy => by
                      rcases List.mem_append.1 hy with h | h
                      · exact hsm.out y h
                      · rw [List.mem_singleton.1 h]; exact htl.out)
                    clear htl hsm hout hdr hx
                    go_wp2_with (at_builtin; refine wp_push ES _ rfl _ _ rfl rfl rfl HOWN (by rfl) (by omega) (by omega) hbs ?_; intro A7 c7 w7 hown7 hgr hbl hlt)
                    clear xS
                    replace hown7 := SOwn.snoc hown7 rfl
                    go_roundg (L.length - (j1))
                    case measure => omega
                    case rel => exact ⟨j1, A7, c7, out ++ [(L.take (j1)).drop j], by omega, by omega, by first | rfl | go_num, by rw [List.length_append]; rfl, hown7, hnx, by rw [List.length_append, List.length_singleton]; omega, hsm2, hbw.trans hbl⟩
              · have hnx := Lib.hid (goes_on (k := j1) (t := (L.take j1).drop j) hout.out (by
                  rw [hdr.out, take_drop_cons hx.out e1 (by omega), Nat.sub_self, List.take_zero]
                  refine Tm.tokR_one _ _ (.inr (.inr (.inr ⟨hlg.elim (fun h => .inl (UInt8.toNat_inj.1 h)) (fun h => .inr (UInt8.toNat_inj.1 h)), ?_⟩)))
                  rw [List.drop_eq_nil_of_le (by omega)]
                  decide))
                have hl1 : decide ((j1 : Int) < (L.length : Int)) = false := decide_eq_false (by omega)
                rcases hlg with h | h
                · have q32 : ((x.toNat : Int) == 32) = false := beq_eq_false_iff_ne.2 (by omega)
                  have q40 : ((x.toNat : Int) == 40) = false := beq_eq_false_iff_ne.2 (by omega)
                  have q41 : ((x.toNat : Int) == 41) = false := beq_eq_false_iff_ne.2 (by omega)
                  have q61 : ((x.toNat : Int) == 61) = false := beq_eq_false_iff_ne.2 (by omega)
                  have q60 : ((x.toNat : Int) == 60) = true := by rw [show x.toNat = 60 by omega]; rfl
                  have q62 : ((x.toNat : Int) == 62) = false := beq_eq_false_iff_ne.2 (by omega)
                  have q33 : ((x.toNat : Int) == 33) = false := beq_eq_false_iff_ne.2 (by omega)
                  clear h h32 hW hwb hb hne hone
                  go_wp2_with fail
                  refine hwcall.mono ?_
                  rintro e w4 ⟨rfl, hw4⟩
                  obtain rfl : wr = w4 := hw4.symm
                  have xS := slice_h (L := L) (j := j) (k := (j1)) (by omega) (by omega)
                  have htl := Lib.hid (show ((L.take (j1)).drop j).length ≤ 1000000000 by rw [List.length_drop, List.length_take]; omega)
                  have hsm2 := Lib.hid (show ∀ y ∈ out ++ [(L.take (j1)).drop j], y.length ≤ 1000000000 from fun y hy => by
                    rcases List.mem_append.1 hy with h | h
                    · exact hsm.out y h
                    · rw [List.mem_singleton.1 h]; exact htl.out)
                  clear htl hsm hout hdr hx
                  go_wp2_with (at_builtin; refine wp_push ES _ rfl _ _ rfl rfl rfl HOWN (by rfl) (by omega) (by omega) hbs ?_; intro A7 c7 w7 hown7 hgr hbl hlt)
                  clear xS
                  replace hown7 := SOwn.snoc hown7 rfl
                  go_roundg (L.length - (j1))
                  case measure => omega
                  case rel => exact ⟨j1, A7, c7, out ++ [(L.take (j1)).drop j], by omega, by omega, by first | rfl | go_num, by rw [List.length_append]; rfl, hown7, hnx, by rw [List.length_append, List.length_singleton]; omega, hsm2, hbw.trans hbl⟩
                · have q32 : ((x.toNat : Int) == 32) = false := beq_eq_false_iff_ne.2 (by omega)
                  have q40 : ((x.toNat : Int) == 40) = false := beq_eq_false_iff_ne.2 (by omega)
                  have q41 : ((x.toNat : Int) == 41) = false := beq_eq_false_iff_ne.2 (by omega)
                  have q61 : ((x.toNat : Int) == 61) = false := beq_eq_false_iff_ne.2 (by omega)
                  have q60 : ((x.toNat : Int) == 60) = false := beq_eq_false_iff_ne.2 (by omega)
                  have q62 : ((x.toNat : Int) == 62) = true := by rw [show x.toNat = 62 by omega]; rfl
                  have q33 : ((x.toNat : Int) == 33) = false := beq_eq_false_iff_ne.2 (by omega)
                  clear h h32 hW hwb hb hne hone
                  go_wp2_with fail
                  refine hwcall.mono ?_
                  rintro e w4 ⟨rfl, hw4⟩
                  obtain rfl : wr = w4 := hw4.symm
                  have xS := slice_h (L := L) (j := j) (k := (j1)) (by omega) (by omega)
                  have htl := Lib.hid (show ((L.take (j1)).drop j).length ≤ 1000000000 by rw [List.length_drop, List.length_take]; omega)
                  have hsm2 := Lib.hid (show ∀ y ∈ out ++ [(L.take (j1)).drop j], y.length ≤ 1000000000 from fun y hy => by
                    rcases List.mem_append.1 hy with h | h
                    · exact hsm.out y h
                    · rw [List.mem_singleton.1 h]; exact htl.out)
                  clear htl hsm hout hdr hx
                  go_wp2_with (at_builtin; refine wp_push ES _ rfl _ _ rfl rfl rfl HOWN (by rfl) (by omega) (by omega) hbs ?_; intro A7 c7 w7 hown7 hgr hbl hlt)
                  clear xS
                  replace hown7 := SOwn.snoc hown7 rfl
                  go_roundg (L.length - (j1))
                  case measure => omega
                  case rel => exact ⟨j1, A7, c7, out ++ [(L.take (j1)).drop j], by omega, by omega, by first | rfl | go_num, by rw [List.length_append]; rfl, hown7, hnx, by rw [List.length_append, List.length_singleton]; omega, hsm2, hbw.trans hbl⟩
            · by_cases h33 : x.toNat = 33
              · have h33' : x = 33 := UInt8.toNat_inj.1 h33
                by_cases hj1 : j1 < L.length
                · obtain ⟨y, hy⟩ : ∃ y, Hid (L[j1]? = some y) := ⟨_, Lib.hid (List.getElem?_eq_getElem hj1)⟩
                  have hiy : ∀ h, (str L)[j1]'h = y := fun h => by
                    obtain ⟨h1, h2⟩ := List.getElem?_eq_some_iff.1 hy.out
                    exact h2
                  have hdy := Lib.hid (drop_cons_of hy.out e2)
                  have hyl : y.toNat < 256 := y.toNat_lt
                  by_cases hye : y.toNat = 61
                  · have hy61 : y = 61 := UInt8.toNat_inj.1 hye
                    have hnx := Lib.hid (goes_on (k := j2) (t := (L.take j2).drop j) hout.out (by
                      rw [hdr.out, take_drop_cons hx.out e1 (by omega), show j2 - j1 = 1 by omega, hdy.out, List.take_succ_cons, List.take_zero, hy61]
                      exact Tm.tokR_two _ _ (.inl h33')))
                    have qy : ((y.toNat : Int) == 61) = true := by rw [hye]; rfl
                    clear hy61 hye hy hdy
                    have q32 : ((x.toNat : Int) == 32) = false := beq_eq_false_iff_ne.2 (by omega)
                    have q40 : ((x.toNat : Int) == 40) = false := beq_eq_false_iff_ne.2 (by omega)
                    have q41 : ((x.toNat : Int) == 41) = false := beq_eq_false_iff_ne.2 (by omega)
                    have q61 : ((x.toNat : Int) == 61) = false := beq_eq_false_iff_ne.2 (by omega)
                    have q60 : ((x.toNat : Int) == 60) = false := beq_eq_false_iff_ne.2 (by omega)
                    have q62 : ((x.toNat : Int) == 62) = false := beq_eq_false_iff_ne.2 (by omega)
                    have q33 : ((x.toNat : Int) == 33) = true := by rw [show x.toNat = 33 by omega]; rfl
                    clear h33 h33' hone hlg h32 hW hwb hb hne
                    go_wp2_with fail
                    refine hwcall.mono ?_
                    rintro e w4 ⟨rfl, hw4⟩
                    obtain rfl : wr = w4 := hw4.symm
                    have xS := slice_h (L := L) (j := j) (k := (j2)) (by omega) (by omega)
                    have htl := Lib.hid (show ((L.take (j2)).drop j).length ≤ 1000000000 by rw [List.length_drop, List.length_take]; omega)
                    have hsm2 := Lib.hid (show ∀ y ∈ out ++ [(L.take (j2)).drop j], y.length ≤ 1000000000 from fun y hy => by
                      rcases List.mem_append.1 hy with h | h
                      · exact hsm.out y h
                      · rw [List.mem_singleton.1 h]; exact htl.out)
                    clear htl hsm hout hdr hx
                    go_wp2_with (at_builtin; refine wp_push ES _ rfl _ _ rfl rfl rfl HOWN (by rfl) (by omega) (by omega) hbs ?_; intro A7 c7 w7 hown7 hgr hbl hlt)
                    clear xS
                    replace hown7 := SOwn.snoc hown7 rfl
                    go_roundg (L.length - (j2))
                    case measure => omega
                    case rel => exact ⟨j2, A7, c7, out ++ [(L.take (j2)).drop j], by omega, by omega, by first | rfl | go_num, by rw [List.length_append]; rfl, hown7, hnx, by rw [List.length_append, List.length_singleton]; omega, hsm2, hbw.trans hbl⟩
                  · have qy : ((y.toNat : Int) == 61) = false := beq_eq_false_iff_ne.2 (by omega)
                    have hbad := Lib.hid (show Tm.tokR (L.drop j) = none by
                      rw [hdr.out]
                      refine tokR_bad (hne 32 32 rfl h32) hxw.out ⟨hne 61 61 rfl (by omega), hne 60 60 rfl (by omega), hne 62 62 rfl (by omega), hne 40 40 rfl (by omega), hne 41 41 rfl (by omega)⟩ fun _ => ?_
                      rw [hdy.out, List.head?_cons]
                      intro h
                      obtain rfl := Option.some.inj h
                      exact hye rfl)
                    clear hye hy hdy
                    have q32 : ((x.toNat : Int) == 32) = false := beq_eq_false_iff_ne.2 (by omega)
                    have q40 : ((x.toNat : Int) == 40) = false := beq_eq_false_iff_ne.2 (by omega)
                    have q41 : ((x.toNat : Int) == 41) = false := beq_eq_false_iff_ne.2 (by omega)
                    have q61 : ((x.toNat : Int) == 61) = false := beq_eq_false_iff_ne.2 (by omega)
                    have q60 : ((x.toNat : Int) == 60) = false := beq_eq_false_iff_ne.2 (by omega)
                    have q62 : ((x.toNat : Int) == 62) = false := beq_eq_false_iff_ne.2 (by omega)
                    have q33 : ((x.toNat : Int) == 33) = true := by rw [show x.toNat = 33 by omega]; rfl
                    clear h33 h33' hone hlg h32 hW hwb hb hne
                    go_wp2_with fail
                    refine hwcall.mono ?_
                    rintro e w4 ⟨rfl, hw4⟩
                    obtain rfl : wr = w4 := hw4.symm
                    have hfin := Lib.hid (show x0 = none by rw [← hout.out, hbad.out]; rfl)
                    clear hbad hout hdr hx
                    go_wp2
                    go_ret2
                    exact ⟨none, 0, [], false, rfl, SOwn.nil _ _, Lib.hid (.inr ⟨rfl, hfin.out⟩), Nat.zero_le _, by simp, hbw⟩
                · have hbad := Lib.hid (show Tm.tokR (L.drop j) = none by
                    rw [hdr.out]
                    refine tokR_bad (hne 32 32 rfl h32) hxw.out ⟨hne 61 61 rfl (by omega), hne 60 60 rfl (by omega), hne 62 62 rfl (by omega), hne 40 40 rfl (by omega), hne 41 41 rfl (by omega)⟩ fun _ => ?_
                    rw [List.drop_eq_nil_of_le (by omega)]
                    decide)
                  have hl1 : decide ((j1 : Int) < (L.length : Int)) = false := decide_eq_false (by omega)
                  have q32 : ((x.toNat : Int) == 32) = false := beq_eq_false_iff_ne.2 (by omega)
                  have q40 : ((x.toNat : Int) == 40) = false := beq_eq_false_iff_ne.2 (by omega)
                  have q41 : ((x.toNat : Int) == 41) = false := beq_eq_false_iff_ne.2 (by omega)
                  have q61 : ((x.toNat : Int) == 61) = false := beq_eq_false_iff_ne.2 (by omega)
                  have q60 : ((x.toNat : Int) == 60) = false := beq_eq_false_iff_ne.2 (by omega)
                  have q62 : ((x.toNat : Int) == 62) = false := beq_eq_false_iff_ne.2 (by omega)
                  have q33 : ((x.toNat : Int) == 33) = true := by rw [show x.toNat = 33 by omega]; rfl
                  clear h33 h33' hone hlg h32 hW hwb hb hne
                  go_wp2_with fail
                  refine hwcall.mono ?_
                  rintro e w4 ⟨rfl, hw4⟩
                  obtain rfl : wr = w4 := hw4.symm
                  have hfin := Lib.hid (show x0 = none by rw [← hout.out, hbad.out]; rfl)
                  clear hbad hout hdr hx
                  go_wp2
                  go_ret2
                  exact ⟨none, 0, [], false, rfl, SOwn.nil _ _, Lib.hid (.inr ⟨rfl, hfin.out⟩), Nat.zero_le _, by simp, hbw⟩
              · have hbad := Lib.hid (show Tm.tokR (L.drop j) = none by
                  rw [hdr.out]
                  exact tokR_bad (hne 32 32 rfl h32) hxw.out ⟨hne 61 61 rfl (by omega), hne 60 60 rfl (by omega), hne 62 62 rfl (by omega), hne 40 40 rfl (by omega), hne 41 41 rfl (by omega)⟩ fun h => absurd (by rw [h]; rfl) h33)
                have q32 : ((x.toNat : Int) == 32) = false := beq_eq_false_iff_ne.2 (by omega)
                have q40 : ((x.toNat : Int) == 40) = false := beq_eq_false_iff_ne.2 (by omega)
                have q41 : ((x.toNat : Int) == 41) = false := beq_eq_false_iff_ne.2 (by omega)
                have q61 : ((x.toNat : Int) == 61) = false := beq_eq_false_iff_ne.2 (by omega)
                have q60 : ((x.toNat : Int) == 60) = false := beq_eq_false_iff_ne.2 (by omega)
                have q62 : ((x.toNat : Int) == 62) = false := beq_eq_false_iff_ne.2 (by omega)
                have q33 : ((x.toNat : Int) == 33) = false := beq_eq_false_iff_ne.2 (by omega)
                clear h33 hone hlg h32 hW hwb hb hne
                go_wp2_with fail
                refine hwcall.mono ?_
                rintro e w4 ⟨rfl, hw4⟩
                obtain rfl : wr = w4 := hw4.symm
                have hfin := Lib.hid (show x0 = none by rw [← hout.out, hbad.out]; rfl)
                clear hbad hout hdr hx
                go_wp2
                go_ret2
                exact ⟨none, 0, [], false, rfl, SOwn.nil _ _, Lib.hid (.inr ⟨rfl, hfin.out⟩), Nat.zero_le _, by simp, hbw⟩
    · obtain rfl : j = L.length := by omega
      have hfin := Lib.hid (show x0 = some out by rw [← hout.out, List.drop_length, Tm.tokR_nil]; simp)
      go_wp2
      go_ret2
      exact ⟨A8, c8, out, true, rfl, HOWN, Lib.hid (.inl ⟨rfl, hfin.out⟩), hol, hsm.out, hbw⟩
end Go.Proofs.YtolkijelldlmeaaGreatDoor

namespace Go.Proofs.YtolkijelldlmeaaGreatDoor
open Go.RowKit Go.Proofs Go

namespace Tm
/-- the term of a query, and the error -/
def PQ (L : List UInt8) (X : Tm) (E : Int) : Prop :=
  (1000 < L.length ∧ X = .mk 0 0 0 0 [] ∧ E = 6) ∨ (L.length ≤ 1000 ∧ tokR L = none ∧ X = .mk 0 0 0 0 [] ∧ E = 3) ∨
  (L.length ≤ 1000 ∧ ∃ ws, tokR L = some ws ∧ ((readT ws = none ∧ X = .mk 0 0 0 0 [] ∧ E = 3) ∨ ∃ t, readT ws = some t ∧ ((¬ Ok t ∧ X = .mk 0 0 0 0 [] ∧ E = 6) ∨ (Ok t ∧ X = t ∧ E = 0))))
theorem PQ.ex (L : List UInt8) : ∃ X E, PQ L X E := by
  by_cases h : L.length ≤ 1000
  · cases ht : tokR L with
    | none => exact ⟨_, _, .inr (.inl ⟨h, ht, rfl, rfl⟩)⟩
    | some ws =>
      cases hr : readT ws with
      | none => exact ⟨_, _, .inr (.inr ⟨h, ws, ht, .inl ⟨hr, rfl, rfl⟩⟩)⟩
      | some t =>
        by_cases hv : Ok t
        · exact ⟨_, _, .inr (.inr ⟨h, ws, ht, .inr ⟨t, hr, .inr ⟨hv, rfl, rfl⟩⟩⟩)⟩
        · exact ⟨_, _, .inr (.inr ⟨h, ws, ht, .inr ⟨t, hr, .inl ⟨hv, rfl, rfl⟩⟩⟩)⟩
  · exact ⟨_, _, .inl ⟨by omega, rfl, rfl⟩⟩
theorem PQ.uniq {L : List UInt8} {X Y : Tm} {E F : Int} (h : PQ L X E) (k : PQ L Y F) : X = Y ∧ E = F := by
  rcases h with ⟨h0, rfl, rfl⟩ | ⟨h0, h1, rfl, rfl⟩ | ⟨h0, ws, h1, h⟩
  · rcases k with ⟨k0, rfl, rfl⟩ | ⟨k0, k1, rfl, rfl⟩ | ⟨k0, vs, k1, k⟩
    · exact ⟨rfl, rfl⟩
    · omega
    · omega
  · rcases k with ⟨k0, rfl, rfl⟩ | ⟨k0, k1, rfl, rfl⟩ | ⟨k0, vs, k1, k⟩
    · omega
    · exact ⟨rfl, rfl⟩
    · rw [h1] at k1; cases k1
  · rcases k with ⟨k0, rfl, rfl⟩ | ⟨k0, k1, rfl, rfl⟩ | ⟨k0, vs, k1, k⟩
    · omega
    · rw [h1] at k1; cases k1
    · rw [h1] at k1
      obtain rfl := Option.some.inj k1
      rcases h with ⟨h2, rfl, rfl⟩ | ⟨t, h2, h3⟩ <;> rcases k with ⟨k2, rfl, rfl⟩ | ⟨u, k2, k3⟩
      · exact ⟨rfl, rfl⟩
      · rw [h2] at k2; cases k2
      · rw [h2] at k2; cases k2
      · rw [h2] at k2
        obtain rfl := Option.some.inj k2
        rcases h3 with ⟨h4, rfl, rfl⟩ | ⟨h4, rfl, rfl⟩ <;> rcases k3 with ⟨k4, rfl, rfl⟩ | ⟨k4, rfl, rfl⟩
        · exact ⟨rfl, rfl⟩
        · exact absurd k4 h4
        · exact absurd h4 k4
        · exact ⟨rfl, rfl⟩
end Tm
set_option maxHeartbeats 8000000 in
set_option maxRecDepth 100000 in
theorem qparse_any {L : List UInt8} {X : Tm} {E : Int} (w : World) (hX : Hid (Tm.PQ L X E)) (hE : Env w) (hL : L.length ≤ 1000000000) :
    Calls Tryz.prog 37 #[.string (str L)] w (RetTE w X E) := by
  have hsz : (str L).size = L.length := str_size L
  have hRb0 : (w.alloc (.cells #[.int .i64 0, .int .i64 0, .int .i64 0, .int .i64 0, .slice none 0 0] 55)).heap[w.heap.size]? = some (.cells #[.int .i64 0, .int .i64 0, .int .i64 0, .int .i64 0, .slice none 0 0] 55) := heap_alloc_new w _
  have hbw := below_alloc w (.cells #[.int .i64 0, .int .i64 0, .int .i64 0, .int .i64 0, .slice none 0 0] 55)
  obtain ⟨B, hB⟩ : ∃ B, Hid ((w.alloc (.cells #[.int .i64 0, .int .i64 0, .int .i64 0, .int .i64 0, .slice none 0 0] 55)).heap.size = B) := ⟨_, Lib.hid rfl⟩
  have hB2 : B = w.heap.size + 1 := by rw [← hB.out]; simp
  go_enter Tryz.func37, Tryz.ntmps37
  go_upto_region 1 with fail
  generalize w.alloc (.cells #[.int .i64 0, .int .i64 0, .int .i64 0, .int .i64 0, .slice none 0 0] 55) = W0 at *
  have hW0 := hB.out
  by_cases hl : L.length ≤ 1000
  · have hd : decide ((1000 : Int) < (L.length : Int)) = false := decide_eq_false (by omega)
    obtain ⟨x0, hx0⟩ : ∃ x, Hid (Tm.tokR L = x) := ⟨_, Lib.hid rfl⟩
    go_wp2_with fail
    refine (qtokens_any W0 hx0 (by omega)).mono ?_
    rintro e w2 ⟨A2, c2, ws, ok, rfl, HOWN, hok, hwl, hws, hb2⟩
    replace hbw := bel_trans hbw hb2
    have hRb2 := blk_below hRb0 hb2
    have hBs2 : B ≤ w2.heap.size := by have := hb2.size; omega
    clear hRb0 hb2
    go_upto_region 5 with fail
    have hba := below_alloc w2 (.cells #[.slice A2 ws.length c2, .bool false] 156)
    have HP : PSt (w2.alloc (.cells #[.slice A2 ws.length c2, .bool false] 156)) w2.heap.size A2 c2 ws false := ⟨heap_alloc_new w2 _, HOWN.ss.ext hba, by
      rcases HOWN.2 with ⟨hv, h0⟩ | ⟨g, cap, cur, hv, _, _, h1, _⟩
      · omega
      · injection hv with _ _ h3
        omega, by
      rcases HOWN.2 with ⟨hv, h0⟩ | ⟨g, cap, cur, hv, _, _, h1, h2, _⟩
      · injection hv with _ _ h3
        omega
      · injection hv with _ _ h3
        unfold maxLen at h2
        omega, fun h0 ad e => by
      obtain ⟨ad2, e2, h2, _⟩ := HOWN.ss h0
      rw [e] at e2
      obtain rfl := Option.some.inj e2
      exact h2, hws⟩
    have hRb3 := blk_below hRb2 hba
    have HE : EnvG w2.heap.size (w2.alloc (.cells #[.slice A2 ws.length c2, .bool false] 156)) := ⟨w, hE, by have := hbw.size; omega, bel_trans hbw hba⟩
    replace hbw := bel_trans hbw hba
    have hBs3 := Nat.le_trans hBs2 hba.size
    clear hba HOWN hRb2
    generalize hW3e : w2.alloc (.cells #[.slice A2 ws.length c2, .bool false] 156) = W3 at *
    clear hW3e
    generalize hgpe : w2.heap.size = gp at *
    clear hgpe
    cases ok with
    | false =>
      have hx : x0 = none := by
        rcases hok.out with ⟨h, _⟩ | ⟨_, h⟩
        · cases h
        · exact h
      obtain ⟨rfl, rfl⟩ := Tm.PQ.uniq hX.out (.inr (.inl ⟨hl, by rw [hx0.out, hx], rfl, rfl⟩))
      clear hX hok hx hx0
      have HX := BL.bare1 _ hRb3
      have hc00 := HX.cell 0 0 rfl rfl
      have hc01 := HX.cell 0 1 rfl rfl
      have hc02 := HX.cell 0 2 rfl rfl
      have hc03 := HX.cell 0 3 rfl rfl
      have hc04 := HX.cell 0 4 rfl rfl
      try simp only [List.getElem_toArray, List.getElem_cons_zero, List.getElem_cons_succ] at hc00 hc01 hc02 hc03 hc04
      have hf00 := HX.free 0 0 rfl
      have hf01 := HX.free 0 1 rfl
      have hf02 := HX.free 0 2 rfl
      have hf03 := HX.free 0 3 rfl
      have hf04 := HX.free 0 4 rfl
      try simp only [] at hf00 hf01 hf02 hf03 hf04
      go_wp2
      clear hc00 hc01 hc02 hc03 hc04
      clear hf00 hf01 hf02 hf03 hf04
      have HG := grown_set5 W3 w.heap.size (.int .i64 0) (.int .i64 0) (.int .i64 0) (.int .i64 0) (.slice none 0 0)
      replace HX := HX.put5 0 rfl (Nat.zero_le _) (by intro k q hk hne; match k, hk with | 0, hk => (simp at hk; subst hk; simp at hne ⊢; try omega) | k + 1, hk => simp at hk) (.int .i64 0) (.int .i64 0) (.int .i64 0) (.int .i64 0) (.slice none 0 0)
      simp only [List.set_cons_zero] at HX
      have hz2 := (TT.Mem.leaf (w := W3) (k := 0) (f := 0) (o := 0) (v := 0) (A := none) (c := 0)).grown HG ((TT.Bl.leaf (p := (B ≤ ·)) (k := 0) (f := 0) (o := 0) (v := 0) (A := none) (c := 0)).mono fun n hn => by show n ≠ w.heap.size; omega)
      have hBz := hbw.trans (below_of_grown HG hbw.size (fun k hk => by injection hk with hk; omega))
      generalize ((((W3.setCell ⟨w.heap.size, 0, none⟩ (.int .i64 0)).setCell ⟨w.heap.size, 1, none⟩ (.int .i64 0)).setCell ⟨w.heap.size, 2, none⟩ (.int .i64 0)).setCell ⟨w.heap.size, 3, none⟩ (.int .i64 0)).setCell ⟨w.heap.size, 4, none⟩ (.slice none 0 0) = Wz at *
      have hc00 := HX.cell 0 0 rfl rfl
      have hc01 := HX.cell 0 1 rfl rfl
      have hc02 := HX.cell 0 2 rfl rfl
      have hc03 := HX.cell 0 3 rfl rfl
      have hc04 := HX.cell 0 4 rfl rfl
      try simp only [List.getElem_toArray, List.getElem_cons_zero, List.getElem_cons_succ] at hc00 hc01 hc02 hc03 hc04
      exact bodyPost_ret (v := .tuple #[.agg #[.int .i64 0, .int .i64 0, .int .i64 0, .int .i64 0, .slice none 0 0], .int .i64 3]) (by simp [results, Tryz.results37, go_sem, hc00, hc01, hc02, hc03, hc04]) rfl (show RetTE _ _ _ _ _ from ⟨(TT.mk 0 0 0 0 none 0 []), rfl, hz2, rfl, hBz⟩)
    | true =>
      have hx : x0 = some ws := by
        rcases hok.out with ⟨_, h⟩ | ⟨h, _⟩
        · exact h
        · cases h
      have htok := Lib.hid (hx0.out.trans hx)
      clear hok hx hx0
      go_wp2_with fail
      refine (qquery_any A2 c2 W3 (by omega) HP HE).mono ?_
      rintro e w4 ⟨y, A4, c4, r, wr, he, hym, hyb, HP4, hg4, hys, hyr⟩
      obtain ⟨ky, fy, oy, vy, Ay, cy, ys⟩ := y
      change e = .returned (.agg #[.int .i64 ky, .int .i64 fy, .int .i64 oy, .int .i64 vy, .slice Ay ys.length cy]) at he
      subst he
      have hlgp := HP.lt
      have hyB : (TT.mk ky fy oy vy Ay cy ys).Bl (B ≤ ·) := hyb.mono fun n hn => by show B ≤ n; omega
      have hRb4 := blk_grown hRb3 hg4 (by omega)
      replace hbw := hbw.trans (below_of_grown hg4 hbw.size (fun k hk => by injection hk with hk; omega))
      clear hRb3 hg4 hyb HP
      go_upto_region 8 with fail
      have hba := below_alloc w4 (.cells #[.int .i64 ky, .int .i64 fy, .int .i64 oy, .int .i64 vy, .slice Ay ys.length cy] 55)
      have hT5 : (w4.alloc (.cells #[.int .i64 ky, .int .i64 fy, .int .i64 oy, .int .i64 vy, .slice Ay ys.length cy] 55)).heap[w4.heap.size]? = some (.cells #[.int .i64 ky, .int .i64 fy, .int .i64 oy, .int .i64 vy, .slice Ay ys.length cy] 55) := heap_alloc_new w4 _
      have hRb5 := blk_below hRb4 hba
      have HP5 := HP4.ext hba
      have hym5 := hym.ext hba
      replace hbw := bel_trans hbw hba
      clear hba hym hRb4 HP4
      generalize hW5e : w4.alloc (.cells #[.int .i64 ky, .int .i64 fy, .int .i64 oy, .int .i64 vy, .slice Ay ys.length cy] 55) = W5 at *
      clear hW5e
      generalize hg5e : w4.heap.size = g5 at *
      clear hg5e
      obtain ⟨cc0, cc1, ff0, ff1⟩ := HP5.cells
      have hk0 := cell_of hT5 0
      have hk1 := cell_of hT5 1
      have hk2 := cell_of hT5 2
      have hk3 := cell_of hT5 3
      have hk4 := cell_of hT5 4
      simp only [List.getElem?_toArray, List.getElem?_cons_zero, List.getElem?_cons_succ] at hk0 hk1 hk2 hk3 hk4
      cases wr with
      | true =>
        have hrd : Tm.readT ws = none := by
          rcases hyr.out with ⟨_, h⟩ | ⟨h, _⟩
          · rw [Tm.readT, h]
          · cases h
        obtain ⟨rfl, rfl⟩ := Tm.PQ.uniq hX.out (.inr (.inr ⟨hl, ws, htok.out, .inl ⟨hrd, rfl, rfl⟩⟩))
        clear hX hrd hyr htok
        have HX := BL.bare1 _ hRb5
        have hc00 := HX.cell 0 0 rfl rfl
        have hc01 := HX.cell 0 1 rfl rfl
        have hc02 := HX.cell 0 2 rfl rfl
        have hc03 := HX.cell 0 3 rfl rfl
        have hc04 := HX.cell 0 4 rfl rfl
        try simp only [List.getElem_toArray, List.getElem_cons_zero, List.getElem_cons_succ] at hc00 hc01 hc02 hc03 hc04
        have hf00 := HX.free 0 0 rfl
        have hf01 := HX.free 0 1 rfl
        have hf02 := HX.free 0 2 rfl
        have hf03 := HX.free 0 3 rfl
        have hf04 := HX.free 0 4 rfl
        try simp only [] at hf00 hf01 hf02 hf03 hf04
        go_wp2
        clear hc00 hc01 hc02 hc03 hc04
        clear hf00 hf01 hf02 hf03 hf04
        have HG := grown_set5 W5 w.heap.size (.int .i64 0) (.int .i64 0) (.int .i64 0) (.int .i64 0) (.slice none 0 0)
        replace HX := HX.put5 0 rfl (Nat.zero_le _) (by intro k q hk hne; match k, hk with | 0, hk => (simp at hk; subst hk; simp at hne ⊢; try omega) | k + 1, hk => simp at hk) (.int .i64 0) (.int .i64 0) (.int .i64 0) (.int .i64 0) (.slice none 0 0)
        simp only [List.set_cons_zero] at HX
        have hz2 := (TT.Mem.leaf (w := W5) (k := 0) (f := 0) (o := 0) (v := 0) (A := none) (c := 0)).grown HG ((TT.Bl.leaf (p := (B ≤ ·)) (k := 0) (f := 0) (o := 0) (v := 0) (A := none) (c := 0)).mono fun n hn => by show n ≠ w.heap.size; omega)
        have hBz := hbw.trans (below_of_grown HG hbw.size (fun k hk => by injection hk with hk; omega))
        generalize ((((W5.setCell ⟨w.heap.size, 0, none⟩ (.int .i64 0)).setCell ⟨w.heap.size, 1, none⟩ (.int .i64 0)).setCell ⟨w.heap.size, 2, none⟩ (.int .i64 0)).setCell ⟨w.heap.size, 3, none⟩ (.int .i64 0)).setCell ⟨w.heap.size, 4, none⟩ (.slice none 0 0) = Wz at *
        have hc00 := HX.cell 0 0 rfl rfl
        have hc01 := HX.cell 0 1 rfl rfl
        have hc02 := HX.cell 0 2 rfl rfl
        have hc03 := HX.cell 0 3 rfl rfl
        have hc04 := HX.cell 0 4 rfl rfl
        try simp only [List.getElem_toArray, List.getElem_cons_zero, List.getElem_cons_succ] at hc00 hc01 hc02 hc03 hc04
        exact bodyPost_ret (v := .tuple #[.agg #[.int .i64 0, .int .i64 0, .int .i64 0, .int .i64 0, .slice none 0 0], .int .i64 3]) (by simp [results, Tryz.results37, go_sem, hc00, hc01, hc02, hc03, hc04]) rfl (show RetTE _ _ _ _ _ from ⟨(TT.mk 0 0 0 0 none 0 []), rfl, hz2, rfl, hBz⟩)
      | false =>
        have hlt : Tm.listT true ws = some ((TT.mk ky fy oy vy Ay cy ys).tm, r) := by
          rcases hyr.out with ⟨h, _⟩ | ⟨_, h⟩
          · cases h
          · exact h
        by_cases hr0 : 0 < r.length
        · have hd5 : decide ((0 : Int) < (r.length : Int)) = true := decide_eq_true (by omega)
          have hrd : Tm.readT ws = none := by
            rw [Tm.readT, hlt]
            cases r with
            | nil => simp at hr0
            | cons a b => rfl
          obtain ⟨rfl, rfl⟩ := Tm.PQ.uniq hX.out (.inr (.inr ⟨hl, ws, htok.out, .inl ⟨hrd, rfl, rfl⟩⟩))
          clear hX hrd hyr htok hlt
          have HX := BL.bare1 _ hRb5
          have hc00 := HX.cell 0 0 rfl rfl
          have hc01 := HX.cell 0 1 rfl rfl
          have hc02 := HX.cell 0 2 rfl rfl
          have hc03 := HX.cell 0 3 rfl rfl
          have hc04 := HX.cell 0 4 rfl rfl
          try simp only [List.getElem_toArray, List.getElem_cons_zero, List.getElem_cons_succ] at hc00 hc01 hc02 hc03 hc04
          have hf00 := HX.free 0 0 rfl
          have hf01 := HX.free 0 1 rfl
          have hf02 := HX.free 0 2 rfl
          have hf03 := HX.free 0 3 rfl
          have hf04 := HX.free 0 4 rfl
          try simp only [] at hf00 hf01 hf02 hf03 hf04
          go_wp2
          clear hc00 hc01 hc02 hc03 hc04
          clear hf00 hf01 hf02 hf03 hf04
          have HG := grown_set5 W5 w.heap.size (.int .i64 0) (.int .i64 0) (.int .i64 0) (.int .i64 0) (.slice none 0 0)
          replace HX := HX.put5 0 rfl (Nat.zero_le _) (by intro k q hk hne; match k, hk with | 0, hk => (simp at hk; subst hk; simp at hne ⊢; try omega) | k + 1, hk => simp at hk) (.int .i64 0) (.int .i64 0) (.int .i64 0) (.int .i64 0) (.slice none 0 0)
          simp only [List.set_cons_zero] at HX
          have hz2 := (TT.Mem.leaf (w := W5) (k := 0) (f := 0) (o := 0) (v := 0) (A := none) (c := 0)).grown HG ((TT.Bl.leaf (p := (B ≤ ·)) (k := 0) (f := 0) (o := 0) (v := 0) (A := none) (c := 0)).mono fun n hn => by show n ≠ w.heap.size; omega)
          have hBz := hbw.trans (below_of_grown HG hbw.size (fun k hk => by injection hk with hk; omega))
          generalize ((((W5.setCell ⟨w.heap.size, 0, none⟩ (.int .i64 0)).setCell ⟨w.heap.size, 1, none⟩ (.int .i64 0)).setCell ⟨w.heap.size, 2, none⟩ (.int .i64 0)).setCell ⟨w.heap.size, 3, none⟩ (.int .i64 0)).setCell ⟨w.heap.size, 4, none⟩ (.slice none 0 0) = Wz at *
          have hc00 := HX.cell 0 0 rfl rfl
          have hc01 := HX.cell 0 1 rfl rfl
          have hc02 := HX.cell 0 2 rfl rfl
          have hc03 := HX.cell 0 3 rfl rfl
          have hc04 := HX.cell 0 4 rfl rfl
          try simp only [List.getElem_toArray, List.getElem_cons_zero, List.getElem_cons_succ] at hc00 hc01 hc02 hc03 hc04
          exact bodyPost_ret (v := .tuple #[.agg #[.int .i64 0, .int .i64 0, .int .i64 0, .int .i64 0, .slice none 0 0], .int .i64 3]) (by simp [results, Tryz.results37, go_sem, hc00, hc01, hc02, hc03, hc04]) rfl (show RetTE _ _ _ _ _ from ⟨(TT.mk 0 0 0 0 none 0 []), rfl, hz2, rfl, hBz⟩)
        · obtain rfl : r = [] := List.eq_nil_of_length_eq_zero (by omega)
          rw [List.length_nil] at cc0
          have hrd := Lib.hid (show Tm.readT ws = some (TT.mk ky fy oy vy Ay cy ys).tm by rw [Tm.readT, hlt])
          clear hr0 hlt hyr
          by_cases hv : (TT.mk ky fy oy vy Ay cy ys).tm.Ok
          · obtain ⟨hXe, rfl⟩ := Tm.PQ.uniq hX.out (.inr (.inr ⟨hl, ws, htok.out, .inr ⟨_, hrd.out, .inr ⟨hv, rfl, rfl⟩⟩⟩))
            have hXe := Lib.hid hXe.symm
            have hb := yes hv
            clear hX hrd hv htok
            go_wp2_with fail
            refine (qvalid_any (TT.mk ky fy oy vy Ay cy ys) W5 hym5 hb).mono ?_
            rintro e w6 ⟨rfl, hb6⟩
            have hRb6 := blk_below hRb5 hb6
            have hT6 := blk_below hT5 hb6
            have hym6 := hym5.ext hb6
            replace hbw := bel_trans hbw hb6
            clear hk0 hk1 hk2 hk3 hk4 cc0 cc1 ff0 ff1
            have hk0 := cell_of hT6 0
            have hk1 := cell_of hT6 1
            have hk2 := cell_of hT6 2
            have hk3 := cell_of hT6 3
            have hk4 := cell_of hT6 4
            simp only [List.getElem?_toArray, List.getElem?_cons_zero, List.getElem?_cons_succ] at hk0 hk1 hk2 hk3 hk4
            have HX := BL.bare1 _ hRb6
            have hc00 := HX.cell 0 0 rfl rfl
            have hc01 := HX.cell 0 1 rfl rfl
            have hc02 := HX.cell 0 2 rfl rfl
            have hc03 := HX.cell 0 3 rfl rfl
            have hc04 := HX.cell 0 4 rfl rfl
            try simp only [List.getElem_toArray, List.getElem_cons_zero, List.getElem_cons_succ] at hc00 hc01 hc02 hc03 hc04
            have hf00 := HX.free 0 0 rfl
            have hf01 := HX.free 0 1 rfl
            have hf02 := HX.free 0 2 rfl
            have hf03 := HX.free 0 3 rfl
            have hf04 := HX.free 0 4 rfl
            try simp only [] at hf00 hf01 hf02 hf03 hf04
            go_wp2
            clear hc00 hc01 hc02 hc03 hc04
            clear hf00 hf01 hf02 hf03 hf04
            have HG := grown_set5 w6 w.heap.size (.int .i64 ky) (.int .i64 fy) (.int .i64 oy) (.int .i64 vy) (.slice Ay ys.length cy)
            replace HX := HX.put5 0 rfl (Nat.zero_le _) (by intro k q hk hne; match k, hk with | 0, hk => (simp at hk; subst hk; simp at hne ⊢; try omega) | k + 1, hk => simp at hk) (.int .i64 ky) (.int .i64 fy) (.int .i64 oy) (.int .i64 vy) (.slice Ay ys.length cy)
            simp only [List.set_cons_zero] at HX
            have hz2 := (hym6).grown HG ((hyB).mono fun n hn => by show n ≠ w.heap.size; omega)
            have hBz := hbw.trans (below_of_grown HG hbw.size (fun k hk => by injection hk with hk; omega))
            generalize ((((w6.setCell ⟨w.heap.size, 0, none⟩ (.int .i64 ky)).setCell ⟨w.heap.size, 1, none⟩ (.int .i64 fy)).setCell ⟨w.heap.size, 2, none⟩ (.int .i64 oy)).setCell ⟨w.heap.size, 3, none⟩ (.int .i64 vy)).setCell ⟨w.heap.size, 4, none⟩ (.slice Ay ys.length cy) = Wz at *
            have hc00 := HX.cell 0 0 rfl rfl
            have hc01 := HX.cell 0 1 rfl rfl
            have hc02 := HX.cell 0 2 rfl rfl
            have hc03 := HX.cell 0 3 rfl rfl
            have hc04 := HX.cell 0 4 rfl rfl
            try simp only [List.getElem_toArray, List.getElem_cons_zero, List.getElem_cons_succ] at hc00 hc01 hc02 hc03 hc04
            exact bodyPost_ret (v := .tuple #[.agg #[.int .i64 ky, .int .i64 fy, .int .i64 oy, .int .i64 vy, .slice Ay ys.length cy], .int .i64 0]) (by simp [results, Tryz.results37, go_sem, hc00, hc01, hc02, hc03, hc04]) rfl (show RetTE _ _ _ _ _ from ⟨(TT.mk ky fy oy vy Ay cy ys), rfl, hz2, hXe.out, hBz⟩)
          · obtain ⟨rfl, rfl⟩ := Tm.PQ.uniq hX.out (.inr (.inr ⟨hl, ws, htok.out, .inr ⟨_, hrd.out, .inl ⟨hv, rfl, rfl⟩⟩⟩))
            have hb := no hv
            clear hX hrd hv htok
            go_wp2_with fail
            refine (qvalid_any (TT.mk ky fy oy vy Ay cy ys) W5 hym5 hb).mono ?_
            rintro e w6 ⟨rfl, hb6⟩
            have hRb6 := blk_below hRb5 hb6
            replace hbw := bel_trans hbw hb6
            clear hk0 hk1 hk2 hk3 hk4 cc0 cc1 ff0 ff1
            have HX := BL.bare1 _ hRb6
            have hc00 := HX.cell 0 0 rfl rfl
            have hc01 := HX.cell 0 1 rfl rfl
            have hc02 := HX.cell 0 2 rfl rfl
            have hc03 := HX.cell 0 3 rfl rfl
            have hc04 := HX.cell 0 4 rfl rfl
            try simp only [List.getElem_toArray, List.getElem_cons_zero, List.getElem_cons_succ] at hc00 hc01 hc02 hc03 hc04
            have hf00 := HX.free 0 0 rfl
            have hf01 := HX.free 0 1 rfl
            have hf02 := HX.free 0 2 rfl
            have hf03 := HX.free 0 3 rfl
            have hf04 := HX.free 0 4 rfl
            try simp only [] at hf00 hf01 hf02 hf03 hf04
            go_wp2
            clear hc00 hc01 hc02 hc03 hc04
            clear hf00 hf01 hf02 hf03 hf04
            have HG := grown_set5 w6 w.heap.size (.int .i64 0) (.int .i64 0) (.int .i64 0) (.int .i64 0) (.slice none 0 0)
            replace HX := HX.put5 0 rfl (Nat.zero_le _) (by intro k q hk hne; match k, hk with | 0, hk => (simp at hk; subst hk; simp at hne ⊢; try omega) | k + 1, hk => simp at hk) (.int .i64 0) (.int .i64 0) (.int .i64 0) (.int .i64 0) (.slice none 0 0)
            simp only [List.set_cons_zero] at HX
            have hz2 := (TT.Mem.leaf (w := w6) (k := 0) (f := 0) (o := 0) (v := 0) (A := none) (c := 0)).grown HG ((TT.Bl.leaf (p := (B ≤ ·)) (k := 0) (f := 0) (o := 0) (v := 0) (A := none) (c := 0)).mono fun n hn => by show n ≠ w.heap.size; omega)
            have hBz := hbw.trans (below_of_grown HG hbw.size (fun k hk => by injection hk with hk; omega))
            generalize ((((w6.setCell ⟨w.heap.size, 0, none⟩ (.int .i64 0)).setCell ⟨w.heap.size, 1, none⟩ (.int .i64 0)).setCell ⟨w.heap.size, 2, none⟩ (.int .i64 0)).setCell ⟨w.heap.size, 3, none⟩ (.int .i64 0)).setCell ⟨w.heap.size, 4, none⟩ (.slice none 0 0) = Wz at *
            have hc00 := HX.cell 0 0 rfl rfl
            have hc01 := HX.cell 0 1 rfl rfl
            have hc02 := HX.cell 0 2 rfl rfl
            have hc03 := HX.cell 0 3 rfl rfl
            have hc04 := HX.cell 0 4 rfl rfl
            try simp only [List.getElem_toArray, List.getElem_cons_zero, List.getElem_cons_succ] at hc00 hc01 hc02 hc03 hc04
            exact bodyPost_ret (v := .tuple #[.agg #[.int .i64 0, .int .i64 0, .int .i64 0, .int .i64 0, .slice none 0 0], .int .i64 6]) (by simp [results, Tryz.results37, go_sem, hc00, hc01, hc02, hc03, hc04]) rfl (show RetTE _ _ _ _ _ from ⟨(TT.mk 0 0 0 0 none 0 []), rfl, hz2, rfl, hBz⟩)
  · have hd : decide ((1000 : Int) < (L.length : Int)) = true := decide_eq_true (by omega)
    obtain ⟨rfl, rfl⟩ := Tm.PQ.uniq hX.out (.inl ⟨by omega, rfl, rfl⟩)
    clear hX hl
    have HX := BL.bare1 _ hRb0
    have hc00 := HX.cell 0 0 rfl rfl
    have hc01 := HX.cell 0 1 rfl rfl
    have hc02 := HX.cell 0 2 rfl rfl
    have hc03 := HX.cell 0 3 rfl rfl
    have hc04 := HX.cell 0 4 rfl rfl
    try simp only [List.getElem_toArray, List.getElem_cons_zero, List.getElem_cons_succ] at hc00 hc01 hc02 hc03 hc04
    have hf00 := HX.free 0 0 rfl
    have hf01 := HX.free 0 1 rfl
    have hf02 := HX.free 0 2 rfl
    have hf03 := HX.free 0 3 rfl
    have hf04 := HX.free 0 4 rfl
    try simp only [] at hf00 hf01 hf02 hf03 hf04
    go_wp2
    clear hc00 hc01 hc02 hc03 hc04
    clear hf00 hf01 hf02 hf03 hf04
    have HG := grown_set5 W0 w.heap.size (.int .i64 0) (.int .i64 0) (.int .i64 0) (.int .i64 0) (.slice none 0 0)
    replace HX := HX.put5 0 rfl (Nat.zero_le _) (by intro k q hk hne; match k, hk with | 0, hk => (simp at hk; subst hk; simp at hne ⊢; try omega) | k + 1, hk => simp at hk) (.int .i64 0) (.int .i64 0) (.int .i64 0) (.int .i64 0) (.slice none 0 0)
    simp only [List.set_cons_zero] at HX
    have hz2 := (TT.Mem.leaf (w := W0) (k := 0) (f := 0) (o := 0) (v := 0) (A := none) (c := 0)).grown HG ((TT.Bl.leaf (p := (B ≤ ·)) (k := 0) (f := 0) (o := 0) (v := 0) (A := none) (c := 0)).mono fun n hn => by show n ≠ w.heap.size; omega)
    have hBz := hbw.trans (below_of_grown HG hbw.size (fun k hk => by injection hk with hk; omega))
    generalize ((((W0.setCell ⟨w.heap.size, 0, none⟩ (.int .i64 0)).setCell ⟨w.heap.size, 1, none⟩ (.int .i64 0)).setCell ⟨w.heap.size, 2, none⟩ (.int .i64 0)).setCell ⟨w.heap.size, 3, none⟩ (.int .i64 0)).setCell ⟨w.heap.size, 4, none⟩ (.slice none 0 0) = Wz at *
    have hc00 := HX.cell 0 0 rfl rfl
    have hc01 := HX.cell 0 1 rfl rfl
    have hc02 := HX.cell 0 2 rfl rfl
    have hc03 := HX.cell 0 3 rfl rfl
    have hc04 := HX.cell 0 4 rfl rfl
    try simp only [List.getElem_toArray, List.getElem_cons_zero, List.getElem_cons_succ] at hc00 hc01 hc02 hc03 hc04
    exact bodyPost_ret (v := .tuple #[.agg #[.int .i64 0, .int .i64 0, .int .i64 0, .int .i64 0, .slice none 0 0], .int .i64 6]) (by simp [results, Tryz.results37, go_sem, hc00, hc01, hc02, hc03, hc04]) rfl (show RetTE _ _ _ _ _ from ⟨(TT.mk 0 0 0 0 none 0 []), rfl, hz2, rfl, hBz⟩)
end Go.Proofs.YtolkijelldlmeaaGreatDoor
