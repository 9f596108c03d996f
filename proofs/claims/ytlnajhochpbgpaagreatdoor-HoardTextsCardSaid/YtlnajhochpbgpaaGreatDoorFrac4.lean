/- The package fraction, fourth part: Add, Sub. -/
import Derived.Test.YtlnajhochpbgpaaGreatDoorFrac3
namespace Go.Proofs.YtlnajhochpbgpaaGreatDoor
open Go.RowKit Go.Proofs

/-- two lowest terms lie in memory -/
structure Q2 (W : World) (p : Rat) (A : Option Addr) (c : Nat) (B : Option Addr) (d : Nat) : Prop where
  num : Lim W A c (dig (nu p))
  den : Lim W B d (dig p.den)
theorem Q2.stay {W W' : World} {p : Rat} {A B : Option Addr} {c d : Nat} (h : Q2 W p A c B d) (hk : Keep W W') : Q2 W' p A c B d := ⟨h.num.stay hk, h.den.stay hk⟩
theorem Q2.ext {W W' : World} {p : Rat} {A B : Option Addr} {c d : Nat} (h : Q2 W p A c B d) (hk : Below W.heap.size W W') : Q2 W' p A c B d := ⟨h.num.ext hk, h.den.ext hk⟩
theorem rest2 {w W W' : World} {os : List (Array Value × TypeId)} {p q : Rat} {A B A' B' : Option Addr} {c d c' d' : Nat} {R : Prop} (HX : Bx w W os) (HP : Q2 W p A c B d) (HQ : Q2 W q A' c' B' d') (hb : Below W.heap.size W W') (h : R) :
    Bx w W' os ∧ Q2 W' p A c B d ∧ Q2 W' q A' c' B' d' ∧ R := ⟨HX.ext hb, HP.ext hb, HQ.ext hb, h⟩

end Go.Proofs.YtlnajhochpbgpaaGreatDoor
