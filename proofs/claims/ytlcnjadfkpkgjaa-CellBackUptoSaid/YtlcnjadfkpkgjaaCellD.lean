/-
  The walks of the laws of the cell, in the form that the rows' frame takes: nothing is claimed here.
-/
import Derived.Test.YtlcnjadfkpkgjaaCellC
import Derived.Test.YtlcnjadfkpkgjaaDecR
namespace Go.Proofs.Ytlcnjadfkpkgjaa.G
open Go.Dec Go.RowKit

theorem CellPuts_row (p : Option Addr) (n c : Nat) (xs : List Int) (s x : Int) (w : World) (h : Ints .u8 w p n c xs) (hr : c * 1 ≤ 140737488351232)
    (_hs : -9223372036854775808 ≤ s ∧ s ≤ 9223372036854775807) (hx : -9223372036854775808 ≤ x ∧ x ≤ 9223372036854775807) :
    stopcocklaw04_CellPuts.C p n c s x w (Ret fun v w' => v = .bool true ∧ Ex w w') :=
  CellPuts_walk p n c xs s x w h.cells h.size (by have := h.room; omega) hx.2

theorem CellGets_row (p : Option Addr) (n c : Nat) (xs : List Int) (a s : Int) (w : World) (h : Ints .u8 w p n c xs) (hr : c * 1 ≤ 140737488351232)
    (ha : -9223372036854775808 ≤ a ∧ a ≤ 9223372036854775807) (_hs : -9223372036854775808 ≤ s ∧ s ≤ 9223372036854775807) :
    stopcocklaw04_CellGets.C p n c a s w (Ret fun v w' => v = .bool true ∧ Ex w w') :=
  CellGets_walk p n c xs a s w h.cells h.size h.room (by have := h.room; omega) (fun x hx => wf_u8' (h.wf x hx)) ha.1 ha.2

theorem CellBack_row (p : Option Addr) (n c : Nat) (xs : List Int) (q : Option Addr) (n' c' : Nat) (ys : List Int) (s x : Int) (w : World) (h : Ints .u8 w p n c xs) (h' : Ints .u8 w q n' c' ys)
    (hs : 0 ≤ s ∧ s < 256) (_hx : -9223372036854775808 ≤ x ∧ x ≤ 9223372036854775807) (hb : c + c' ≤ 1048576) :
    stopcocklaw04_CellBack.C p n c q n' c' s x w (Ret fun v w' => v = .bool true ∧ Ex w w') :=
  CellBack_walk p n c xs q n' c' ys s x w h.cells h.size (by have := h.room; omega) (fun x hx => wf_u8' (h.wf x hx)) h'.cells h'.size (by have := h'.room; omega) (fun x hx => wf_u8' (h'.wf x hx)) hs.1 hs.2
    (by have := h.room; have := h'.room; omega)
end Go.Proofs.Ytlcnjadfkpkgjaa.G
