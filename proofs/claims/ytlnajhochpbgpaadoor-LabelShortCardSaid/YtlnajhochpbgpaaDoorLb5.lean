/- The runs of a list of numbers: the program's Runs and the reference's. -/
import Derived.Test.YtlnajhochpbgpaaDoorLb4
namespace Go.Proofs.YtlnajhochpbgpaaDoor
open Go.RowKit Go.Proofs Go

/-- the call owns a row of strings -/
def scells (ws : List (List UInt8)) : List Value := ws.map fun x => .string (str x)
def SOwn (w : World) (B : Nat) (A : Option Addr) (c : Nat) (ws : List (List UInt8)) : Prop := Own w B 9 A ws.length c (scells ws)
theorem ES : Elt Tryd.prog 57 9 (.string ByteArray.empty) 16 := ⟨Tryd.underlying57, by kernel_rfl, rfl⟩
section
variable {w w' : World} {B c : Nat} {A : Option Addr} {ws : List (List UInt8)}
theorem SOwn.nil (w : World) (B : Nat) : SOwn w B none 0 [] := World.ownsRow_nil w B _ 1
theorem SOwn.ext (h : SOwn w B A c ws) (hb : Below w.heap.size w w') : SOwn w' B A c ws := Own.ext h hb
theorem SOwn.snoc {n : Nat} {x : List UInt8} (h : Own w B 9 A n c (scells ws ++ [.string (str x)])) (hn : n = ws.length + 1) : SOwn w B A c (ws ++ [x]) := by
  subst hn
  unfold SOwn
  rw [List.length_append, scells, List.map_append]
  exact h
theorem SOwn.at_ (h : SOwn w B A c ws) (h0 : 0 < ws.length) : ∃ g, A = some ⟨g, 0, none⟩ ∧ g < w.heap.size ∧ ws.length ≤ c ∧ ∀ (i : Nat) x, ws[i]? = some x → w.cell? ⟨g, 0 + i, none⟩ = some (.string (str x)) := by
  have h1 := h
  rcases h1.2 with ⟨_, h2⟩ | ⟨g, cap, cur, hv, _, hg, hnc, _⟩
  · omega
  · injection hv with hA _ hc
    subst hA hc
    refine ⟨g, rfl, (Array.getElem?_eq_some_iff.1 hg).1, hnc, fun i x hx => ?_⟩
    have := World.ownsRow.cells h rfl i _ (show (scells ws)[i]? = some (.string (str x)) by simp [scells, hx])
    rw [Addr.add_lit] at this
    exact this
end
theorem join_T (ws : List (List UInt8)) : Lib.join ws [44, 32] = joinT ws := by
  cases ws with
  | nil => rfl
  | cons w r => rw [Lib.join_cons, joinT, Lib.joinTail, sepd, List.flatMap]
theorem join_h {w : World} {B c : Nat} {A : Option Addr} {ws : List (List UInt8)} {T : List UInt8} (h : SOwn w B A c ws) (hT : Hid (joinT ws = T)) (hc : ws = [] → A = none ∧ c = 0) (hl : ws.length ≤ 1000000) (hTl : T.length ≤ 1000000) :
    Calls Tryd.prog 39 #[.slice A ws.length c, .string ⟨#[44, 32]⟩] w fun e w' => e = .returned (.string (str T)) ∧ Below w.heap.size w w' := by
  by_cases h0 : 0 < ws.length
  · obtain ⟨g, rfl, hg, hcap, hcell⟩ := h.at_ h0
    have hm : (ws.map str).map (·.data.toList) = ws := by
      rw [List.map_map]
      conv => rhs; rw [← List.map_id ws]
      exact List.map_congr_left fun x _ => by simp [str]
    have hj : Lib.join ((ws.map str).map (·.data.toList)) (⟨#[44, 32]⟩ : ByteArray).data.toList = T := by rw [hm, ← hT.out]; exact join_T ws
    have := Tryd.strings_Join g 0 c (ws.map str) ⟨#[44, 32]⟩ w (fun j x hx => by
      rw [List.getElem?_map] at hx
      obtain ⟨y, hy, rfl⟩ := Option.map_eq_some_iff.1 hx
      exact hcell j y hy) hg (by rw [List.length_map]; omega) (by rw [List.length_map]; exact hcap) (by rw [hj]; omega)
    rw [List.length_map, hj] at this
    exact this
  · obtain rfl : ws = [] := List.eq_nil_of_length_eq_zero (by omega)
    obtain ⟨rfl, rfl⟩ := hc rfl
    refine (Tryd.strings_Join_none _ _ _ w).mono ?_
    rintro e w' ⟨rfl, rfl⟩
    exact ⟨by rw [← hT.out]; rfl, Below.refl _ _⟩
set_option maxHeartbeats 1000000 in
set_option maxRecDepth 100000 in
theorem basc_any {b : Bool} (A : Option Addr) (c : Nat) (l : List Int) (w : World) (H : IEs w A l) (hl : l.length ≤ 9223372036854775807) (hb : Tells b (Asc l)) :
    Calls Tryd.prog 40 #[.slice A l.length c, .int .i64 1, .int .i64 999] w (RetB w b) := by
  go_enter Tryd.func40, Tryd.ntmps40
  go_wp2
  go_loopg [7] l.length (fun k i wr => ∃ j : Nat, j + k = l.length ∧ i = .int .i64 (j : Int) ∧ Hid (∀ i, i < j → AscAt l i) ∧ Below w.heap.size w wr)
  case atStart => exact ⟨0, by omega, rfl, Lib.hid (fun i h => absurd h (by omega)), Below.refl _ _⟩
  case round =>
    obtain ⟨j, hj, rfl, hok, hbw⟩ := hrel
    by_cases hj0 : j < l.length
    · have hx := Lib.hid (List.getElem?_eq_getElem hj0)
      obtain ⟨ad, rfl, hbk, c0⟩ := (H.ext hbw).at_ hx.out
      generalize l[j] = x at *
      by_cases h1 : 1 ≤ x
      · have d1 : decide (x < 1) = false := decide_eq_false (by omega)
        by_cases h2 : x ≤ 999
        · have d2 : decide (999 < x) = false := decide_eq_false (by omega)
          by_cases h0 : j = 0
          · subst h0
            have hnx := Lib.hid (show ∀ i, i < 0 + 1 → AscAt l i from fun i hi y hy => by
              obtain rfl : i = 0 := by omega
              rw [hx.out] at hy
              obtain rfl := Option.some.inj hy
              exact ⟨⟨h1, h2⟩, fun j y h => absurd h (by omega)⟩)
            clear h1 h2
            have c0z : wr.cell? ad = some (.int .i64 x) := by simpa [Addr.add] using c0
            go_upto_region 4 with fail
            go_quiet (fail)
            go_wp2
            go_roundg (l.length - (0 + 1))
            case measure => omega
            case rel => exact ⟨0 + 1, by omega, by go_num, hnx, drew_below hbw _⟩
          · obtain ⟨k, hjk⟩ : ∃ k, j = k + 1 := ⟨j - 1, by omega⟩
            have hk0 : k < l.length := by omega
            have HJK := Lib.hid hjk
            have qk : IntKind.i64.wrap ((j : Int) - 1) = (k : Int) := by rw [show (j : Int) - 1 = (k : Int) by omega]; exact Go.IntWalk.i64_in _ (by omega)
            have QK := Lib.hid qk
            clear hjk qk
            have hy := Lib.hid (List.getElem?_eq_getElem hk0)
            obtain ⟨ad2, he2, _, p0⟩ := (H.ext hbw).at_ hy.out
            obtain rfl := Option.some.inj he2
            generalize l[k] = y at *
            clear h0
            have hk1 : (0 : Int) < (j : Int) := by have := HJK.out; omega
            have hk2 : 0 < j := by have := HJK.out; omega
            by_cases hlt : y < x
            · have hnx := Lib.hid (show ∀ i, i < j + 1 → AscAt l i from fun i hi => by
                by_cases hik : i < j
                · exact hok.out i hik
                · obtain rfl : i = j := by omega
                  intro z hz
                  rw [hx.out] at hz
                  obtain rfl := Option.some.inj hz
                  refine ⟨⟨h1, h2⟩, fun j' z hj hz => ?_⟩
                  obtain rfl : j' = k := by have := HJK.out; omega
                  rw [hy.out] at hz
                  obtain rfl := Option.some.inj hz
                  exact hlt)
              have hltb : decide (x ≤ y) = false := decide_eq_false (by omega)
              clear h1 h2
              have qk := QK.out
              have q2 : (0 : Int) ≤ (k : Int) := by omega
              have q3 : (k : Int) < (l.length : Int) := by omega
              go_upto_region 4 with fail
              go_quiet (fail)
              clear qk q2 q3
              go_wp2
              go_roundg (l.length - (j + 1))
              case measure => omega
              case rel => exact ⟨j + 1, by omega, by go_num, hnx, drew_below hbw _⟩
            · have hltb : decide (x ≤ y) = true := decide_eq_true (by omega)
              obtain rfl : b = false := hb.f <| by
                intro hL
                exact hlt ((hL j x hx.out).2 k y HJK.out hy.out)
              clear h1 h2
              have qk := QK.out
              have q2 : (0 : Int) ≤ (k : Int) := by omega
              have q3 : (k : Int) < (l.length : Int) := by omega
              go_upto_region 4 with fail
              go_quiet (fail)
              clear qk q2 q3
              go_wp2
              go_ret
              exact ⟨rfl, drew_below hbw _⟩
        · have d2 : decide (999 < x) = true := decide_eq_true (by omega)
          obtain rfl : b = false := hb.f fun hL => h2 (hL j x hx.out).1.2
          clear h2
          go_upto_region 4 with fail
          go_quiet (fail)
          go_wp2
          go_ret
          exact ⟨rfl, drew_below hbw _⟩
      · have d1 : decide (x < 1) = true := decide_eq_true (by omega)
        obtain rfl : b = false := hb.f fun hL => h1 (hL j x hx.out).1.1
        clear h1
        go_upto_region 4 with fail
        go_quiet (fail)
        go_wp2
        go_ret
        exact ⟨rfl, drew_below hbw _⟩
    · obtain rfl : b = true := hb.t fun i => by
        by_cases hi : i < l.length
        · exact hok.out i (by omega)
        · intro x hx; rw [List.getElem?_eq_none (by omega)] at hx; cases hx
      go_wp2
      go_ret
      exact ⟨rfl, hbw⟩
/-- what Runs returns -/
def RetR (w : World) (T : List UInt8) (E : Int) (e : Ending) (w' : World) : Prop := e = .returned (.tuple #[.string (str T), .int .i64 E]) ∧ Below w.heap.size w w'
def prevAt (l : List Int) (j : Nat) : Option Int := if j = 0 then none else l[j - 1]?
theorem prevAt_succ {l : List Int} {j : Nat} {x : Int} (h : l[j]? = some x) : prevAt l (j + 1) = some x := by rw [prevAt, if_neg (by omega), Nat.add_sub_cancel, h]
theorem refT_at {l : List Int} {j : Nat} {x : Int} {p : Option Int} (h : l[j]? = some x) : refT p (l.drop j) = pieceT p x l[j + 1]? ++ refT (some x) (l.drop (j + 1)) := by
  obtain ⟨hj, rfl⟩ := List.getElem?_eq_some_iff.1 h
  rw [List.drop_eq_getElem_cons hj, refT, List.head?_drop]
set_option maxHeartbeats 400000 in
set_option maxRecDepth 100000 in
theorem rruns_bad (A : Option Addr) (c : Nat) (l : List Int) (w : World) (H : IEs w A l) (hl : l.length ≤ 9223372036854775807) (hA : ¬ Asc l) :
    Calls Tryd.prog 21 #[.slice A l.length c] w (RetR w [] 1) := by
  have HA := no hA
  clear hA
  go_enter Tryd.func21, Tryd.ntmps21
  go_wp2_with fail
  refine (basc_any A c l _ H hl HA).mono ?_
  rintro e w1 ⟨rfl, hb⟩
  go_wp2
  go_ret2
  exact ⟨by first | rfl | simp [str], hb⟩
set_option maxHeartbeats 8000000 in
set_option maxRecDepth 100000 in
theorem rruns_ok {T : List UInt8} (A : Option Addr) (c : Nat) (l : List Int) (w : World) (H : IEs w A l) (hA : Asc l) (hT : Hid (runsT l = T)) :
    Calls Tryd.prog 21 #[.slice A l.length c] w (RetR w T 0) := by
  have HA := yes hA
  have hlen := hA.len
  have hTl : T.length ≤ 9000 := by have := runsT_len hA; rw [hT.out] at this; omega
  have hT2 := refT_eq l
  rw [hT.out] at hT2
  have HT := Lib.hid hT2
  have HAH := Lib.hid hA
  clear hA hT2
  go_enter Tryd.func21, Tryd.ntmps21
  go_wp2_with fail
  refine (basc_any A c l _ H (by omega) HA).mono ?_
  rintro e w1 ⟨rfl, hbw⟩
  go_wp2
  go_loopg [4, 5] l.length (fun k s i wr => ∃ (j : Nat) (S : List UInt8), j + k = l.length ∧ i = .int .i64 (j : Int) ∧ s = .string (str S) ∧ Hid (S ++ refT (prevAt l j) (l.drop j) = T) ∧ Below w.heap.size w wr)
  case atStart => exact ⟨0, [], by omega, rfl, rfl, HT, hbw⟩
  case round =>
    clear hbw HT hT
    obtain ⟨j, S, hj, rfl, rfl, hS, hbw⟩ := hrel
    have hSl : S.length ≤ 9000 := by have := congrArg List.length hS.out; rw [List.length_append] at this; omega
    have hsS : (str S).size = S.length := str_size S
    by_cases hj0 : j < l.length
    · have hx := Lib.hid (List.getElem?_eq_getElem hj0)
      have hxr := (HAH.out j _ hx.out).1
      have hS2 := hS.out
      rw [refT_at hx.out] at hS2
      have hps := Lib.hid (prevAt_succ hx.out)
      have HIE := H.ext hbw
      obtain ⟨ad, rfl, hbk, c0⟩ := HIE.at_ hx.out
      generalize l[j] = x at *
      have HS2 := Lib.hid hS2
      clear hS2 hS
      obtain ⟨P, hP⟩ : ∃ P, dz x = P := ⟨_, rfl⟩
      have hPl : P.length ≤ 3 := hP ▸ dz_len (by omega) (by omega) (by omega)
      have hsP : (str P).size = P.length := str_size P
      have HP := Lib.hid hP
      clear hP
      by_cases h0 : j = 0
      · subst h0
        have HPV : Hid (prevAt l 0 = none) := Lib.hid rfl
        have HF : Hid True := Lib.hid trivial
        by_cases hz0 : 0 + 1 < l.length
        · have hz := Lib.hid (List.getElem?_eq_getElem hz0)
          have hzr := (HAH.out _ _ hz.out).1
          obtain ⟨ad3, he3, _, z0⟩ := HIE.at_ hz.out
          obtain rfl := Option.some.inj he3
          have dl : ((0 : Int) == (l.length : Int) - 1) = false := beq_eq_false_iff_ne.2 (by omega)
          generalize l[0 + 1] = z at *
          by_cases hzx : z = x + 1
          · have dz1 : (z != x + 1) = false := by rw [bne_eq_false_iff_eq]; exact hzx
            have HNV : Hid (l[0 + 1]? = some (x + 1)) := Lib.hid (by rw [hz.out, hzx])
            have HN : Hid (True) := Lib.hid trivial
            clear hzx
            have hp : pieceT (prevAt l 0) x l[0 + 1]? = P ++ [45] := by
              rw [pieceT, HPV.out, HNV.out, HP.out]
              simp [HF.out, HN.out]
            have hnx : Hid ((S ++ (P ++ [45])) ++ refT (prevAt l (0 + 1)) (l.drop (0 + 1)) = T) := Lib.hid (by rw [hps.out, ← HS2.out, hp]; simp)
            have hcat : Hid (str S ++ str P ++ (⟨#[45]⟩ : ByteArray) = str (S ++ (P ++ [45]))) := Lib.hid (by
              skip
              rw [show (⟨#[45]⟩ : ByteArray) = str [45] from rfl]
              simp only [str_append, List.append_nil, List.append_assoc])
            clear hp
            have wz : (1 : Int) < (l.length : Int) := by omega
            have z0s : wr.cell? ⟨ad.block, ad.off + 1, none⟩ = some (.int .i64 z) := by simpa [Addr.add] using z0
            have c0z : wr.cell? ad = some (.int .i64 x) := by simpa [Addr.add] using c0
            have w1 : IntKind.i64.wrap 1 = 1 := by rfl
            have wl : IntKind.i64.wrap ((l.length : Int) - 1) = (l.length : Int) - 1 := Go.IntWalk.i64_in _ (by omega)
            have wx : IntKind.i64.wrap (x + 1) = x + 1 := Go.IntWalk.i64_in _ (by omega)
            have hbw2 : ∀ n, Below w.heap.size w (wr.drewN n) := fun n => drew_below hbw n
            go_upto_region 7 with fail
            go_quiet (fail)
            go_upto_region 8 with fail
            go_quiet (fail)
            clear w1 wl wx wz z0s
            go_wp2_with fail
            refine (rdec_any _ HP (by omega) (by omega)).mono ?_
            rintro e w3 ⟨rfl, hb⟩
            have hbw3 := bel_trans (hbw2 _) hb
            go_wp2
            go_roundg (l.length - (0 + 1))
            case measure => omega
            case rel => exact ⟨0 + 1, S ++ (P ++ [45]), by omega, by go_num, by rw [← hcat.out], hnx, hbw3⟩
          · have dz1 : (z != x + 1) = true := bne_iff_ne.2 hzx
            have HNV : Hid (l[0 + 1]? = some z) := hz
            have HN : Hid (¬ z = x + 1) := Lib.hid hzx
            clear hzx
            have hp : pieceT (prevAt l 0) x l[0 + 1]? = P := by
              rw [pieceT, HPV.out, HNV.out, HP.out]
              simp [HF.out, HN.out]
            have hnx : Hid ((S ++ (P)) ++ refT (prevAt l (0 + 1)) (l.drop (0 + 1)) = T) := Lib.hid (by rw [hps.out, ← HS2.out, hp]; simp)
            have hcat : Hid (str S ++ str P = str (S ++ (P))) := Lib.hid (by
              skip
              skip
              simp only [str_append, List.append_nil, List.append_assoc])
            clear hp
            have wz : (1 : Int) < (l.length : Int) := by omega
            have z0s : wr.cell? ⟨ad.block, ad.off + 1, none⟩ = some (.int .i64 z) := by simpa [Addr.add] using z0
            have c0z : wr.cell? ad = some (.int .i64 x) := by simpa [Addr.add] using c0
            have w1 : IntKind.i64.wrap 1 = 1 := by rfl
            have wl : IntKind.i64.wrap ((l.length : Int) - 1) = (l.length : Int) - 1 := Go.IntWalk.i64_in _ (by omega)
            have wx : IntKind.i64.wrap (x + 1) = x + 1 := Go.IntWalk.i64_in _ (by omega)
            have hbw2 : ∀ n, Below w.heap.size w (wr.drewN n) := fun n => drew_below hbw n
            go_upto_region 7 with fail
            go_quiet (fail)
            go_upto_region 8 with fail
            go_quiet (fail)
            clear w1 wl wx wz z0s
            go_wp2_with fail
            refine (rdec_any _ HP (by omega) (by omega)).mono ?_
            rintro e w3 ⟨rfl, hb⟩
            have hbw3 := bel_trans (hbw2 _) hb
            go_wp2
            go_roundg (l.length - (0 + 1))
            case measure => omega
            case rel => exact ⟨0 + 1, S ++ (P), by omega, by go_num, by rw [← hcat.out], hnx, hbw3⟩
        · have dl : ((0 : Int) == (l.length : Int) - 1) = true := beq_iff_eq.2 (by omega)
          have HNV : Hid (l[0 + 1]? = none) := Lib.hid (List.getElem?_eq_none (by omega))
          have HN : Hid (True) := Lib.hid trivial
          have hp : pieceT (prevAt l 0) x l[0 + 1]? = P := by
            rw [pieceT, HPV.out, HNV.out, HP.out]
            simp [HF.out, HN.out]
          have hnx : Hid ((S ++ (P)) ++ refT (prevAt l (0 + 1)) (l.drop (0 + 1)) = T) := Lib.hid (by rw [hps.out, ← HS2.out, hp]; simp)
          have hcat : Hid (str S ++ str P = str (S ++ (P))) := Lib.hid (by
            skip
            skip
            simp only [str_append, List.append_nil, List.append_assoc])
          clear hp
          have c0z : wr.cell? ad = some (.int .i64 x) := by simpa [Addr.add] using c0
          have w1 : IntKind.i64.wrap 1 = 1 := by rfl
          have wl : IntKind.i64.wrap ((l.length : Int) - 1) = (l.length : Int) - 1 := Go.IntWalk.i64_in _ (by omega)
          have wx : IntKind.i64.wrap (x + 1) = x + 1 := Go.IntWalk.i64_in _ (by omega)
          have hbw2 : ∀ n, Below w.heap.size w (wr.drewN n) := fun n => drew_below hbw n
          go_upto_region 7 with fail
          go_quiet (fail)
          go_upto_region 8 with fail
          go_quiet (fail)
          clear w1 wl wx
          go_wp2_with fail
          refine (rdec_any _ HP (by omega) (by omega)).mono ?_
          rintro e w3 ⟨rfl, hb⟩
          have hbw3 := bel_trans (hbw2 _) hb
          go_wp2
          go_roundg (l.length - (0 + 1))
          case measure => omega
          case rel => exact ⟨0 + 1, S ++ (P), by omega, by go_num, by rw [← hcat.out], hnx, hbw3⟩
      · obtain ⟨m, hjm⟩ : ∃ m, j = m + 1 := ⟨j - 1, by omega⟩
        have hm0 : m < l.length := by omega
        have qk : IntKind.i64.wrap ((j : Int) - 1) = (m : Int) := by rw [show (j : Int) - 1 = (m : Int) by omega]; exact Go.IntWalk.i64_in _ (by omega)
        have QK := Lib.hid qk
        have HJM := Lib.hid hjm
        have hm1 : (0 : Int) < (j : Int) := by omega
        have hm2 : ((j : Int) == 0) = false := beq_eq_false_iff_ne.2 (by omega)
        clear hjm qk
        have hy := Lib.hid (List.getElem?_eq_getElem hm0)
        have hyr := (HAH.out _ _ hy.out).1
        obtain ⟨ad2, he2, _, p0⟩ := HIE.at_ hy.out
        obtain rfl := Option.some.inj he2
        generalize l[m] = y at *
        clear h0
        have HPV : Hid (prevAt l j = some y) := Lib.hid (by rw [HJM.out]; exact prevAt_succ hy.out)
        by_cases hyx : y = x - 1
        · have dy : (y != x - 1) = false := by rw [bne_eq_false_iff_eq]; exact hyx
          have HF : Hid (y = x - 1) := Lib.hid hyx
          clear hyx
          by_cases hz0 : j + 1 < l.length
          · have hz := Lib.hid (List.getElem?_eq_getElem hz0)
            have hzr := (HAH.out _ _ hz.out).1
            obtain ⟨ad3, he3, _, z0⟩ := HIE.at_ hz.out
            obtain rfl := Option.some.inj he3
            have dl : ((j : Int) == (l.length : Int) - 1) = false := beq_eq_false_iff_ne.2 (by omega)
            generalize l[j + 1] = z at *
            by_cases hzx : z = x + 1
            · have dz1 : (z != x + 1) = false := by rw [bne_eq_false_iff_eq]; exact hzx
              have HNV : Hid (l[j + 1]? = some (x + 1)) := Lib.hid (by rw [hz.out, hzx])
              have HN : Hid (True) := Lib.hid trivial
              clear hzx
              have hp : pieceT (prevAt l j) x l[j + 1]? = [] := by
                rw [pieceT, HPV.out, HNV.out, HP.out]
                simp [HF.out, HN.out]
              have hnx : Hid ((S ++ ([])) ++ refT (prevAt l (j + 1)) (l.drop (j + 1)) = T) := Lib.hid (by rw [hps.out, ← HS2.out, hp]; simp)
              have hcat : Hid (str S = str (S ++ ([]))) := Lib.hid (by
                skip
                skip
                simp only [str_append, List.append_nil, List.append_assoc])
              clear hp
              have wz : (j : Int) + 1 < (l.length : Int) := by omega
              have wy : (0 : Int) ≤ (j : Int) + 1 := by omega
              have wn : ((j : Int) + 1).toNat = j + 1 := by omega
              have z0s : wr.cell? ⟨ad.block, ad.off + (j + 1), none⟩ = some (.int .i64 z) := by simpa [Addr.add] using z0
              have qk := QK.out
              have q2 : (0 : Int) ≤ (m : Int) := by omega
              have q3 : (m : Int) < (l.length : Int) := by omega
              have w1 : IntKind.i64.wrap ((j : Int) + 1) = (j : Int) + 1 := Go.IntWalk.i64_in _ (by omega)
              have w3 : IntKind.i64.wrap (x - 1) = x - 1 := Go.IntWalk.i64_in _ (by omega)
              have wl : IntKind.i64.wrap ((l.length : Int) - 1) = (l.length : Int) - 1 := Go.IntWalk.i64_in _ (by omega)
              have wx : IntKind.i64.wrap (x + 1) = x + 1 := Go.IntWalk.i64_in _ (by omega)
              have hbw2 : ∀ n, Below w.heap.size w (wr.drewN n) := fun n => drew_below hbw n
              go_upto_region 7 with fail
              go_quiet (fail)
              go_upto_region 8 with fail
              go_quiet (fail)
              clear qk q2 q3 w1 w3 wl wx wz wy wn z0s
              go_wp2
              go_roundg (l.length - (j + 1))
              case measure => omega
              case rel => exact ⟨j + 1, S ++ ([]), by omega, by go_num, by rw [← hcat.out], hnx, hbw2 _⟩
            · have dz1 : (z != x + 1) = true := bne_iff_ne.2 hzx
              have HNV : Hid (l[j + 1]? = some z) := hz
              have HN : Hid (¬ z = x + 1) := Lib.hid hzx
              clear hzx
              have hp : pieceT (prevAt l j) x l[j + 1]? = P := by
                rw [pieceT, HPV.out, HNV.out, HP.out]
                simp [HF.out, HN.out]
              have hnx : Hid ((S ++ (P)) ++ refT (prevAt l (j + 1)) (l.drop (j + 1)) = T) := Lib.hid (by rw [hps.out, ← HS2.out, hp]; simp)
              have hcat : Hid (str S ++ str P = str (S ++ (P))) := Lib.hid (by
                skip
                skip
                simp only [str_append, List.append_nil, List.append_assoc])
              clear hp
              have wz : (j : Int) + 1 < (l.length : Int) := by omega
              have wy : (0 : Int) ≤ (j : Int) + 1 := by omega
              have wn : ((j : Int) + 1).toNat = j + 1 := by omega
              have z0s : wr.cell? ⟨ad.block, ad.off + (j + 1), none⟩ = some (.int .i64 z) := by simpa [Addr.add] using z0
              have qk := QK.out
              have q2 : (0 : Int) ≤ (m : Int) := by omega
              have q3 : (m : Int) < (l.length : Int) := by omega
              have w1 : IntKind.i64.wrap ((j : Int) + 1) = (j : Int) + 1 := Go.IntWalk.i64_in _ (by omega)
              have w3 : IntKind.i64.wrap (x - 1) = x - 1 := Go.IntWalk.i64_in _ (by omega)
              have wl : IntKind.i64.wrap ((l.length : Int) - 1) = (l.length : Int) - 1 := Go.IntWalk.i64_in _ (by omega)
              have wx : IntKind.i64.wrap (x + 1) = x + 1 := Go.IntWalk.i64_in _ (by omega)
              have hbw2 : ∀ n, Below w.heap.size w (wr.drewN n) := fun n => drew_below hbw n
              go_upto_region 7 with fail
              go_quiet (fail)
              go_upto_region 8 with fail
              go_quiet (fail)
              clear qk q2 q3 w1 w3 wl wx wz wy wn z0s
              go_wp2_with fail
              refine (rdec_any _ HP (by omega) (by omega)).mono ?_
              rintro e w3 ⟨rfl, hb⟩
              have hbw3 := bel_trans (hbw2 _) hb
              go_wp2
              go_roundg (l.length - (j + 1))
              case measure => omega
              case rel => exact ⟨j + 1, S ++ (P), by omega, by go_num, by rw [← hcat.out], hnx, hbw3⟩
          · have dl : ((j : Int) == (l.length : Int) - 1) = true := beq_iff_eq.2 (by omega)
            have HNV : Hid (l[j + 1]? = none) := Lib.hid (List.getElem?_eq_none (by omega))
            have HN : Hid (True) := Lib.hid trivial
            have hp : pieceT (prevAt l j) x l[j + 1]? = P := by
              rw [pieceT, HPV.out, HNV.out, HP.out]
              simp [HF.out, HN.out]
            have hnx : Hid ((S ++ (P)) ++ refT (prevAt l (j + 1)) (l.drop (j + 1)) = T) := Lib.hid (by rw [hps.out, ← HS2.out, hp]; simp)
            have hcat : Hid (str S ++ str P = str (S ++ (P))) := Lib.hid (by
              skip
              skip
              simp only [str_append, List.append_nil, List.append_assoc])
            clear hp
            have qk := QK.out
            have q2 : (0 : Int) ≤ (m : Int) := by omega
            have q3 : (m : Int) < (l.length : Int) := by omega
            have w1 : IntKind.i64.wrap ((j : Int) + 1) = (j : Int) + 1 := Go.IntWalk.i64_in _ (by omega)
            have w3 : IntKind.i64.wrap (x - 1) = x - 1 := Go.IntWalk.i64_in _ (by omega)
            have wl : IntKind.i64.wrap ((l.length : Int) - 1) = (l.length : Int) - 1 := Go.IntWalk.i64_in _ (by omega)
            have wx : IntKind.i64.wrap (x + 1) = x + 1 := Go.IntWalk.i64_in _ (by omega)
            have hbw2 : ∀ n, Below w.heap.size w (wr.drewN n) := fun n => drew_below hbw n
            go_upto_region 7 with fail
            go_quiet (fail)
            go_upto_region 8 with fail
            go_quiet (fail)
            clear qk q2 q3 w1 w3 wl wx
            go_wp2_with fail
            refine (rdec_any _ HP (by omega) (by omega)).mono ?_
            rintro e w3 ⟨rfl, hb⟩
            have hbw3 := bel_trans (hbw2 _) hb
            go_wp2
            go_roundg (l.length - (j + 1))
            case measure => omega
            case rel => exact ⟨j + 1, S ++ (P), by omega, by go_num, by rw [← hcat.out], hnx, hbw3⟩
        · have dy : (y != x - 1) = true := bne_iff_ne.2 hyx
          have HF : Hid (¬ y = x - 1) := Lib.hid hyx
          clear hyx
          by_cases hz0 : j + 1 < l.length
          · have hz := Lib.hid (List.getElem?_eq_getElem hz0)
            have hzr := (HAH.out _ _ hz.out).1
            obtain ⟨ad3, he3, _, z0⟩ := HIE.at_ hz.out
            obtain rfl := Option.some.inj he3
            have dl : ((j : Int) == (l.length : Int) - 1) = false := beq_eq_false_iff_ne.2 (by omega)
            generalize l[j + 1] = z at *
            by_cases hzx : z = x + 1
            · have dz1 : (z != x + 1) = false := by rw [bne_eq_false_iff_eq]; exact hzx
              have HNV : Hid (l[j + 1]? = some (x + 1)) := Lib.hid (by rw [hz.out, hzx])
              have HN : Hid (True) := Lib.hid trivial
              clear hzx
              have hp : pieceT (prevAt l j) x l[j + 1]? = [44, 32] ++ P ++ [45] := by
                rw [pieceT, HPV.out, HNV.out, HP.out]
                simp [HF.out, HN.out]
              have hnx : Hid ((S ++ ([44, 32] ++ P ++ [45])) ++ refT (prevAt l (j + 1)) (l.drop (j + 1)) = T) := Lib.hid (by rw [hps.out, ← HS2.out, hp]; simp)
              have hcat : Hid (str S ++ (⟨#[44, 32]⟩ : ByteArray) ++ str P ++ (⟨#[45]⟩ : ByteArray) = str (S ++ ([44, 32] ++ P ++ [45]))) := Lib.hid (by
                rw [show (⟨#[44, 32]⟩ : ByteArray) = str [44, 32] from rfl]
                rw [show (⟨#[45]⟩ : ByteArray) = str [45] from rfl]
                simp only [str_append, List.append_nil, List.append_assoc])
              clear hp
              have wz : (j : Int) + 1 < (l.length : Int) := by omega
              have wy : (0 : Int) ≤ (j : Int) + 1 := by omega
              have wn : ((j : Int) + 1).toNat = j + 1 := by omega
              have z0s : wr.cell? ⟨ad.block, ad.off + (j + 1), none⟩ = some (.int .i64 z) := by simpa [Addr.add] using z0
              have qk := QK.out
              have q2 : (0 : Int) ≤ (m : Int) := by omega
              have q3 : (m : Int) < (l.length : Int) := by omega
              have w1 : IntKind.i64.wrap ((j : Int) + 1) = (j : Int) + 1 := Go.IntWalk.i64_in _ (by omega)
              have w3 : IntKind.i64.wrap (x - 1) = x - 1 := Go.IntWalk.i64_in _ (by omega)
              have wl : IntKind.i64.wrap ((l.length : Int) - 1) = (l.length : Int) - 1 := Go.IntWalk.i64_in _ (by omega)
              have wx : IntKind.i64.wrap (x + 1) = x + 1 := Go.IntWalk.i64_in _ (by omega)
              have hbw2 : ∀ n, Below w.heap.size w (wr.drewN n) := fun n => drew_below hbw n
              go_upto_region 7 with fail
              go_quiet (fail)
              go_upto_region 8 with fail
              go_quiet (fail)
              clear qk q2 q3 w1 w3 wl wx wz wy wn z0s
              go_wp2_with fail
              refine (rdec_any _ HP (by omega) (by omega)).mono ?_
              rintro e w3 ⟨rfl, hb⟩
              have hbw3 := bel_trans (hbw2 _) hb
              go_wp2
              go_roundg (l.length - (j + 1))
              case measure => omega
              case rel => exact ⟨j + 1, S ++ ([44, 32] ++ P ++ [45]), by omega, by go_num, by rw [← hcat.out], hnx, hbw3⟩
            · have dz1 : (z != x + 1) = true := bne_iff_ne.2 hzx
              have HNV : Hid (l[j + 1]? = some z) := hz
              have HN : Hid (¬ z = x + 1) := Lib.hid hzx
              clear hzx
              have hp : pieceT (prevAt l j) x l[j + 1]? = [44, 32] ++ P := by
                rw [pieceT, HPV.out, HNV.out, HP.out]
                simp [HF.out, HN.out]
              have hnx : Hid ((S ++ ([44, 32] ++ P)) ++ refT (prevAt l (j + 1)) (l.drop (j + 1)) = T) := Lib.hid (by rw [hps.out, ← HS2.out, hp]; simp)
              have hcat : Hid (str S ++ (⟨#[44, 32]⟩ : ByteArray) ++ str P = str (S ++ ([44, 32] ++ P))) := Lib.hid (by
                rw [show (⟨#[44, 32]⟩ : ByteArray) = str [44, 32] from rfl]
                skip
                simp only [str_append, List.append_nil, List.append_assoc])
              clear hp
              have wz : (j : Int) + 1 < (l.length : Int) := by omega
              have wy : (0 : Int) ≤ (j : Int) + 1 := by omega
              have wn : ((j : Int) + 1).toNat = j + 1 := by omega
              have z0s : wr.cell? ⟨ad.block, ad.off + (j + 1), none⟩ = some (.int .i64 z) := by simpa [Addr.add] using z0
              have qk := QK.out
              have q2 : (0 : Int) ≤ (m : Int) := by omega
              have q3 : (m : Int) < (l.length : Int) := by omega
              have w1 : IntKind.i64.wrap ((j : Int) + 1) = (j : Int) + 1 := Go.IntWalk.i64_in _ (by omega)
              have w3 : IntKind.i64.wrap (x - 1) = x - 1 := Go.IntWalk.i64_in _ (by omega)
              have wl : IntKind.i64.wrap ((l.length : Int) - 1) = (l.length : Int) - 1 := Go.IntWalk.i64_in _ (by omega)
              have wx : IntKind.i64.wrap (x + 1) = x + 1 := Go.IntWalk.i64_in _ (by omega)
              have hbw2 : ∀ n, Below w.heap.size w (wr.drewN n) := fun n => drew_below hbw n
              go_upto_region 7 with fail
              go_quiet (fail)
              go_upto_region 8 with fail
              go_quiet (fail)
              clear qk q2 q3 w1 w3 wl wx wz wy wn z0s
              go_wp2_with fail
              refine (rdec_any _ HP (by omega) (by omega)).mono ?_
              rintro e w3 ⟨rfl, hb⟩
              have hbw3 := bel_trans (hbw2 _) hb
              go_wp2
              go_roundg (l.length - (j + 1))
              case measure => omega
              case rel => exact ⟨j + 1, S ++ ([44, 32] ++ P), by omega, by go_num, by rw [← hcat.out], hnx, hbw3⟩
          · have dl : ((j : Int) == (l.length : Int) - 1) = true := beq_iff_eq.2 (by omega)
            have HNV : Hid (l[j + 1]? = none) := Lib.hid (List.getElem?_eq_none (by omega))
            have HN : Hid (True) := Lib.hid trivial
            have hp : pieceT (prevAt l j) x l[j + 1]? = [44, 32] ++ P := by
              rw [pieceT, HPV.out, HNV.out, HP.out]
              simp [HF.out, HN.out]
            have hnx : Hid ((S ++ ([44, 32] ++ P)) ++ refT (prevAt l (j + 1)) (l.drop (j + 1)) = T) := Lib.hid (by rw [hps.out, ← HS2.out, hp]; simp)
            have hcat : Hid (str S ++ (⟨#[44, 32]⟩ : ByteArray) ++ str P = str (S ++ ([44, 32] ++ P))) := Lib.hid (by
              rw [show (⟨#[44, 32]⟩ : ByteArray) = str [44, 32] from rfl]
              skip
              simp only [str_append, List.append_nil, List.append_assoc])
            clear hp
            have qk := QK.out
            have q2 : (0 : Int) ≤ (m : Int) := by omega
            have q3 : (m : Int) < (l.length : Int) := by omega
            have w1 : IntKind.i64.wrap ((j : Int) + 1) = (j : Int) + 1 := Go.IntWalk.i64_in _ (by omega)
            have w3 : IntKind.i64.wrap (x - 1) = x - 1 := Go.IntWalk.i64_in _ (by omega)
            have wl : IntKind.i64.wrap ((l.length : Int) - 1) = (l.length : Int) - 1 := Go.IntWalk.i64_in _ (by omega)
            have wx : IntKind.i64.wrap (x + 1) = x + 1 := Go.IntWalk.i64_in _ (by omega)
            have hbw2 : ∀ n, Below w.heap.size w (wr.drewN n) := fun n => drew_below hbw n
            go_upto_region 7 with fail
            go_quiet (fail)
            go_upto_region 8 with fail
            go_quiet (fail)
            clear qk q2 q3 w1 w3 wl wx
            go_wp2_with fail
            refine (rdec_any _ HP (by omega) (by omega)).mono ?_
            rintro e w3 ⟨rfl, hb⟩
            have hbw3 := bel_trans (hbw2 _) hb
            go_wp2
            go_roundg (l.length - (j + 1))
            case measure => omega
            case rel => exact ⟨j + 1, S ++ ([44, 32] ++ P), by omega, by go_num, by rw [← hcat.out], hnx, hbw3⟩
    · have hS2 := hS.out
      rw [List.drop_eq_nil_of_le (by omega), refT, List.append_nil] at hS2
      have HS2 := Lib.hid hS2
      clear hS2 hS
      go_wp2
      go_ret2
      exact ⟨by rw [← HS2.out]; rfl, hbw⟩
theorem rruns_any {T : List UInt8} {E : Int} (A : Option Addr) (c : Nat) (l : List Int) (w : World) (H : IEs w A l) (hl : l.length ≤ 9223372036854775807) (hP : PR l T E) :
    Calls Tryd.prog 21 #[.slice A l.length c] w (RetR w T E) := by
  rcases hP with ⟨rfl, h1, h2⟩ | ⟨rfl, rfl, h1⟩
  · exact rruns_ok A c l w H h1 (Lib.hid h2)
  · exact rruns_bad A c l w H hl h1
end Go.Proofs.YtlnajhochpbgpaaDoor
