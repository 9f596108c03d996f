/- The library's cuts of strings, over rows of bytes; the texts of naturals, read, under hidden equations. -/
import Derived.Test.YtajddhkepbnilaaGreatDoorTMath
import Derived.Test.YtajddhkepbnilaaGreatDoorShelf
import Derived.Test.YtajddhkepbnilaaGreatDoorNParse
import Derived.Test.YtajddhkepbnilaaGreatDoorOps
import Derived.Shelf.Vars
namespace Go.Proofs.YtajddhkepbnilaaGreatDoor
open Go.RowKit Go.Proofs Go

/-- the library's variable holds some number -/
def Mx (w : World) : Prop := ∃ m, w.cell? ⟨0, 0, none⟩ = some (.int .i64 m)
theorem Mx.ext {w w' : World} (h : Mx w) (hb : Below w.heap.size w w') : Mx w' := by
  obtain ⟨m, hm⟩ := h
  exact ⟨m, by rw [hb.cell (cell_lt hm)]; exact hm⟩
theorem mx_of_shape {w : World} (h : w.ShapedOpen Tryz.prog) : Mx w :=
  cell_of_shapedOpen_int (g := 0) (zero := #[.int .i64 0]) (t := 3) h (of_decide_eq_true (by kernel_rfl)) (by kernel_rfl) rfl (by kernel_rfl) (by kernel_rfl) Tryz.underlying3
theorem scut_any {c : UInt8} {L P R : List UInt8} {b : Bool} (w : World) (h : Hid (cutAt c L = (P, R, b))) (hm : Mx w) (hL : L.length ≤ 1000000000) :
    Calls Tryz.prog 38 #[.string (str L), .string ⟨#[c]⟩] w fun e w' => e = .returned (.tuple #[.string (str P), .string (str R), .bool b]) ∧ Below w.heap.size w w' := by
  obtain ⟨m, hm⟩ := hm
  refine (Tryz.strings_Cut (str L) ⟨#[c]⟩ m w (by rw [str_size]; omega) hm).mono ?_
  rintro e w' ⟨he, n, rfl⟩
  have hc : Lib.cut (str L).data.toList (⟨#[c]⟩ : ByteArray).data.toList = (P, R, b) := by
    rw [← h.out, ← lib_cut]; simp [str]
  rw [hc] at he
  exact ⟨he, drew_below (Below.refl _ _) n⟩
theorem has_one (p : UInt8) (L : List UInt8) : Lib.hasPrefix L [p] = (L.head? == some p) := by
  cases L with
  | nil => rfl
  | cons b l =>
    by_cases h : b = p
    · subst h; simp [Lib.hasPrefix, List.isPrefixOf]
    · have h2 : (p == b) = false := beq_eq_false_iff_ne.2 (fun e => h e.symm)
      have h3 : (b == p) = false := beq_eq_false_iff_ne.2 h
      simp [Lib.hasPrefix, List.isPrefixOf, h2, h3]
set_option maxRecDepth 100000 in
theorem slcutp_any {p : UInt8} {L R : List UInt8} {b : Bool} (w : World) (h : Hid ((if L.head? == some p then L.tail else L) = R ∧ (L.head? == some p) = b)) (hL : L.length ≤ 1000000000) :
    Calls Tryz.prog 88 #[.string (str L), .string ⟨#[p]⟩] w fun e w' => e = .returned (.tuple #[.string (str R), .bool b]) ∧ w' = w := by
  have hsz : (str L).size = L.length := str_size L
  have hp1 : (⟨#[p]⟩ : ByteArray).size = 1 := rfl
  go_enter Tryz.func88, Tryz.ntmps88
  go_wp2_with fail
  refine (Tryz.stringslite_HasPrefix (str L) ⟨#[p]⟩ _).mono ?_
  rintro e w1 ⟨rfl, rfl⟩
  have hp : Lib.hasPrefix (str L).data.toList (⟨#[p]⟩ : ByteArray).data.toList = b := by
    rw [← h.out.2, ← has_one]; simp [str]
  rw [hp]
  clear hp
  cases b with
  | false =>
    have hR : L = R := by have := h.out.1; rwa [h.out.2, if_neg (by simp)] at this
    subst hR
    go_wp2
    go_ret2
    exact ⟨by first | rfl | simp, rfl⟩
  | true =>
    have hl : 1 ≤ L.length := by
      have := h.out.2
      cases L with
      | nil => simp at this
      | cons b l => simp
    have hR : L.tail = R := by have := h.out.1; rwa [h.out.2, if_pos rfl] at this
    have hx : (str L).extract 1 L.length = str R := by rw [str_drop, List.drop_one, hR]
    clear hR
    go_wp2
    go_ret2
    exact ⟨by first | rfl | simp, rfl⟩
set_option maxRecDepth 100000 in
theorem scutp_any {p : UInt8} {L R : List UInt8} {b : Bool} (w : World) (h : Hid ((if L.head? == some p then L.tail else L) = R ∧ (L.head? == some p) = b)) (hL : L.length ≤ 1000000000) :
    Calls Tryz.prog 37 #[.string (str L), .string ⟨#[p]⟩] w fun e w' => e = .returned (.tuple #[.string (str R), .bool b]) ∧ Below w.heap.size w w' := by
  go_enter Tryz.func37, Tryz.ntmps37
  go_wp2_with fail
  refine (slcutp_any _ h hL).mono ?_
  rintro e w1 ⟨rfl, rfl⟩
  go_wp2
  go_ret2
  exact ⟨by first | rfl | simp, Below.refl _ _⟩
theorem dig_parseV (L : List UInt8) : (dig (parseV L)).length ≤ 500 := by
  rw [parseV]
  split
  · next h =>
    have h2 := dval_lt (numeral_all h.2)
    obtain ⟨K, hK⟩ : ∃ K, K = 445 := ⟨_, rfl⟩
    have h3 : 10 ^ L.length ≤ 10 ^ (9 * K) := Nat.pow_le_pow_right (by omega) (by have := h.1; omega)
    have h4 : (dig (dval 0 L)).length ≤ K := dig_len_le (by rw [pw_ten]; exact Nat.lt_of_lt_of_le h2 h3)
    omega
  · rw [dig_zero]; simp
theorem nparse_e {L : List UInt8} {N : Nat} {E : Int} (w : World) (h : Hid (parseV L = N ∧ parseE L = E)) (hl : L.length ≤ 1000000000) :
    Calls Tryz.prog 39 #[.string (str L)] w (RetNE w N E) := by
  obtain ⟨rfl, rfl⟩ := h.out
  exact nparse_any L w (by omega)

/-- a string is the text of a number -/
theorem fok_iff {L : List UInt8} (hL : L.length ≤ 3000) : fok L = true ↔ parseE (fnum L) = 0 ∧ parseE (fden L) = 0 ∧ fracText (rv (fneg L) (parseV (fnum L)) (parseV (fden L))) = L := by
  have h1 := fnum_len L
  have h2 := fden_len L
  have key : ∀ M : List UInt8, M.length ≤ 3001 → (parseE M = 0 ↔ numeral M = true) := fun M hM => by
    rw [parseE, if_neg (by omega)]
    split
    · next h => simp [h]
    · next h => simp [h]
  have kv : ∀ M : List UInt8, M.length ≤ 3001 → numeral M = true → parseV M = dval 0 M := fun M hM h => by
    rw [parseV, if_pos ⟨by omega, h⟩]
  rw [key _ (by omega), key _ (by omega), fok, Bool.and_eq_true, Bool.and_eq_true, beq_iff_eq, and_assoc]
  refine and_congr_right fun ha => and_congr_right fun hb => ?_
  rw [kv _ (by omega) ha, kv _ (by omega) hb, fq]
theorem fq_of {L : List UInt8} (hL : L.length ≤ 3000) (h : fok L = true) : fq L = rv (fneg L) (parseV (fnum L)) (parseV (fden L)) := by
  have h1 := fnum_len L
  have h2 := fden_len L
  obtain ⟨ha, hb, _⟩ := fok_num h
  rw [fq, parseV, parseV, if_pos ⟨by omega, ha⟩, if_pos ⟨by omega, hb⟩]
theorem parseE_cases {L : List UInt8} (hL : L.length ≤ 4000) : parseE L = 0 ∨ parseE L = 3 := by
  rw [parseE, if_neg (by omega)]
  split
  · exact .inl rfl
  · exact .inr rfl
/-- what Parse returns -/
def RetP (w : World) (L : List UInt8) (e : Ending) (w' : World) : Prop :=
  if 4000 < L.length then RetZE w 6 e w' else if fok L = true then RetGE w (fq L) 500 e w' else RetZE w 3 e w'
end Go.Proofs.YtajddhkepbnilaaGreatDoor
