/- The library's readers of texts (Cut, Split, Atoi) at any text, over a world in which the library's variables are as its text lays them. -/
import Derived.Test.YtolkijelldlmeaaGreatDoorDz
import Derived.Test.YtolkijelldlmeaaGreatDoorHb
import Derived.Shelf.Vars
import Derived.Lib.AtoiTie
namespace Go.Proofs.YtolkijelldlmeaaGreatDoor
open Go.RowKit Go.Proofs Go

/-- a variable of an error's type holds a value of that type -/
def Evar (w : World) (g : Nat) : Prop := ∃ ev, w.cell? ⟨g, 0, none⟩ = some ev ∧ (ev = .nilIface ∨ ∃ te pe, ev = .iface te pe)
theorem Evar.ext {w w' : World} {g : Nat} (h : Evar w g) (hb : Below w.heap.size w w') : Evar w' g := by
  obtain ⟨ev, h1, h2⟩ := h
  exact ⟨ev, by rw [hb.cell (cell_lt h1)]; exact h1, h2⟩
/-- the library's variables -/
structure Env (w : World) : Prop where
  tab : Tab w
  mx : ∃ m, w.cell? ⟨0, 0, none⟩ = some (.int .i64 m)
  e1 : Evar w 1
  e2 : Evar w 2
theorem Env.ext {w w' : World} (h : Env w) (hb : Below w.heap.size w w') : Env w' :=
  ⟨h.tab.ext hb, by obtain ⟨m, hm⟩ := h.mx; exact ⟨m, by rw [hb.cell (cell_lt hm)]; exact hm⟩, h.e1.ext hb, h.e2.ext hb⟩
theorem str_of (s : ByteArray) : str s.data.toList = s := by simp [str]
theorem cut_h {c : UInt8} {L P R : List UInt8} {b : Bool} (w : World) (h : Hid (Lib.cut L [c] = (P, R, b))) (hE : Env w) (hL : L.length ≤ 1000000000) :
    Calls Tryz.prog 123 #[.string (str L), .string ⟨#[c]⟩] w fun e w' => e = .returned (.tuple #[.string (str P), .string (str R), .bool b]) ∧ Below w.heap.size w w' := by
  obtain ⟨m, hm⟩ := hE.mx
  refine (Tryz.strings_Cut (str L) ⟨#[c]⟩ m w (by rw [str_size]; omega) hm).mono ?_
  rintro e w' ⟨he, n, rfl⟩
  have hc : Lib.cut (str L).data.toList (⟨#[c]⟩ : ByteArray).data.toList = (P, R, b) := by rw [← h.out]; simp [str]
  rw [hc] at he
  exact ⟨he, drew_below (Below.refl _ _) n⟩
theorem cut2_h {c d : UInt8} {L P R : List UInt8} {b : Bool} (w : World) (h : Hid (Lib.cut L [c, d] = (P, R, b))) (hE : Env w) (hL : L.length ≤ 1000000000) :
    Calls Tryz.prog 123 #[.string (str L), .string ⟨#[c, d]⟩] w fun e w' => e = .returned (.tuple #[.string (str P), .string (str R), .bool b]) ∧ Below w.heap.size w w' := by
  obtain ⟨m, hm⟩ := hE.mx
  refine (Tryz.strings_Cut (str L) ⟨#[c, d]⟩ m w (by rw [str_size]; omega) hm).mono ?_
  rintro e w' ⟨he, n, rfl⟩
  have hc : Lib.cut (str L).data.toList (⟨#[c, d]⟩ : ByteArray).data.toList = (P, R, b) := by rw [← h.out]; simp [str]
  rw [hc] at he
  exact ⟨he, drew_below (Below.refl _ _) n⟩
theorem splitB_str (L : List UInt8) (sb : ByteArray) : Lib.splitB sb 0 (Lib.countB (str L) sb) (str L) = (Lib.split L sb.data.toList).map str := by
  have h := Lib.splitB_data sb 0 (Lib.countB (str L) sb) (str L)
  have h2 : (Lib.splitB sb 0 (Lib.countB (str L) sb) (str L)).map (fun s => str s.data.toList) = Lib.splitB sb 0 (Lib.countB (str L) sb) (str L) := by
    rw [List.map_congr_left (g := id) (fun s _ => str_of s)]; simp
  have h3 := congrArg (List.map str) h
  rw [List.map_map] at h3
  rw [← h2]
  exact h3
theorem split_h {sb : ByteArray} {L : List UInt8} {ws : List (List UInt8)} (w : World) (h : Hid (Lib.split L sb.data.toList = ws)) (hE : Env w) (hL : L.length ≤ 1000000000) (h1 : 1 ≤ sb.size) :
    Calls Tryz.prog 121 #[.string (str L), .string sb] w fun e w' => e = .returned (.slice (some ⟨w.heap.size, 0, none⟩) ws.length ws.length) ∧ w' = w.alloc (.cells (ws.map fun x => Value.string (str x)).toArray 9) := by
  obtain ⟨m, hm⟩ := hE.mx
  refine (Tryz.strings_Split (str L) sb m w (by rw [str_size]; omega) hm h1).mono ?_
  rintro e w' ⟨rfl, rfl⟩
  have h2 := splitB_str L sb
  rw [h.out] at h2
  have hl : Lib.countB (str L) sb + 1 = ws.length := by
    have := congrArg List.length h2
    rw [Lib.splitB_all sb h1 0 _ _ rfl, List.length_map] at this
    exact this
  rw [h2, hl, List.map_map]
  exact ⟨rfl, rfl⟩
theorem atoi_ok {L : List UInt8} {n : Int} (w : World) (h : Hid (Lib.atoiAll L = .ok n)) (hL : L.length ≤ 1000000000) :
    Calls Tryz.prog 137 #[.string (str L)] w fun e w' => e = .returned (.tuple #[.int .i64 n, .nilIface]) ∧ Below w.heap.size w w' := by
  refine (Tryz.strconv_Atoi_ok (str L) (by rw [str_size]; omega) n (by rw [← h.out]; simp [str]) w).mono ?_
  rintro e w' ⟨rfl, hW⟩
  refine ⟨rfl, ?_⟩
  rcases hW with rfl | ⟨t, rfl⟩
  · exact Below.refl _ _
  · exact Lib.bytesWorld_below _ _ _
/-- Atoi where there is no number -/
def RetAbad (w : World) (e : Ending) (w' : World) : Prop := ∃ (v : Int) (N : Nat), e = .returned (.tuple #[.int .i64 v, .iface 315 (.pointer (some ⟨N, 0, none⟩))]) ∧ Below w.heap.size w w'
theorem atoi_bad {L : List UInt8} (w : World) (h : Hid (∀ n, Lib.atoiAll L ≠ .ok n)) (hE : Env w) (hL : L.length ≤ 1000000000) :
    Calls Tryz.prog 137 #[.string (str L)] w (RetAbad w) := by
  have hd : (str L).data.toList = L := by simp [str]
  obtain ⟨ev1, c1, p1⟩ := hE.e1
  obtain ⟨ev2, c2, p2⟩ := hE.e2
  cases hA : Lib.atoiAll L with
  | ok n => exact absurd hA (h.out n)
  | range =>
    refine (Tryz.strconv_Atoi_range (str L) (by rw [str_size]; omega) (by rw [hd]; exact hA) ev2 w c2 p2).mono ?_
    rintro e w' ⟨N, rfl, _, _, hb⟩
    exact ⟨_, N, rfl, hb⟩
  | _ =>
    refine (Any.strconv_Atoi_syntax Tryz.laysC172 (str L) (by rw [str_size]; omega) (by rw [hd]; exact hA) ev1 w c1 p1).mono ?_
    rintro e w' ⟨N, rfl, _, _, hb⟩
    exact ⟨_, N, rfl, hb⟩
end Go.Proofs.YtolkijelldlmeaaGreatDoor
