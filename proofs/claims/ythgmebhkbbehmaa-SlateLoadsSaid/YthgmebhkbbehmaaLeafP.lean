/-
  leaf.Encode's header of any state, in whichever order its parts are laid. Printed by wip/tool/leafgen2.py.
-/
import Derived.Test.YthgmebhkbbehmaaLeafN
namespace Go.Proofs.Ythgmebhkbbehmaa.G.En
open Go.Dec Go.RowKit
set_option linter.unusedVariables false
set_option linter.unusedSimpArgs false

theorem T18 {H : Hd} {W : World} {D b2 b3 b4 : Nat} {p1 p20 : Option Addr} {c1 c20 : Nat} {R : Ending → World → Prop} (cx : Ctx H W b2 b3 b4 p20 c20) (fin : Fin H W D b4 p1 c1 R) {w57 : World} (hx : Ex W w57) {p22 : Option Addr} {c22 : Nat} {b16 : Nat} (hp22 : Sl W w57 p22 11 c22 (hd2 H)) (hb16 : Bx w57 b16 [(H.n : Int)]) : leaf_Encode.o18 D p22 11 c22 b16 w57 b4 p1 H.n c1 R := by
  unfold leaf_Encode.o18
  refine putC cx.ok hx hp22 hb16 fun p23 c23 w58 x g h => ?_
  dsimp only [dS_slice]
  exact fin _ _ _ x h
theorem T19 {H : Hd} {W : World} {D b2 b3 b4 : Nat} {p1 p20 : Option Addr} {c1 c20 : Nat} {R : Ending → World → Prop} (cx : Ctx H W b2 b3 b4 p20 c20) (fin : Fin H W D b4 p1 c1 R) {w55 : World} (hx : Ex W w55) {p22 : Option Addr} {c22 : Nat} (hp22 : Sl W w55 p22 11 c22 (hd2 H)) : leaf_Encode.o19 D w55 H.n p22 11 c22 b4 p1 c1 R := by
  unfold leaf_Encode.o19
  refine newBx hx [(H.n : Int)] fun b16 w57 x h => ?_
  exact T18 cx fin (hx.trans x) (hp22.ex x) h
theorem T20 {H : Hd} {W : World} {D b2 b3 b4 : Nat} {p1 p20 : Option Addr} {c1 c20 : Nat} {R : Ending → World → Prop} (cx : Ctx H W b2 b3 b4 p20 c20) (fin : Fin H W D b4 p1 c1 R) {w69 : World} (hx : Ex W w69) {p21 : Option Addr} {c21 : Nat} {b15 : Nat} {b19 : Nat} (hp21 : Sl W w69 p21 8 c21 (hd1 H)) (hb15 : Bx w69 b15 [H.s, H.k, (H.m : Int)]) (hb19 : Bx w69 b19 [(H.n : Int)]) : leaf_Encode.o20 D p21 8 c21 b15 w69 b19 b4 p1 H.n c1 R := by
  unfold leaf_Encode.o20
  refine putB cx.ok hx hp21 hb15 fun p28 c28 w70 x g h => ?_
  dsimp only [dS_slice]
  exact T18 cx fin x h (g _ _ hb19)
theorem T21 {H : Hd} {W : World} {D b2 b3 b4 : Nat} {p1 p20 : Option Addr} {c1 c20 : Nat} {R : Ending → World → Prop} (cx : Ctx H W b2 b3 b4 p20 c20) (fin : Fin H W D b4 p1 c1 R) {w54 : World} (hx : Ex W w54) {p21 : Option Addr} {c21 : Nat} {b15 : Nat} (hp21 : Sl W w54 p21 8 c21 (hd1 H)) (hb15 : Bx w54 b15 [H.s, H.k, (H.m : Int)]) : leaf_Encode.o21 D p21 8 c21 b15 w54 H.n b4 p1 c1 R := by
  unfold leaf_Encode.o21
  refine ⟨?_, ?_⟩
  · refine putB cx.ok hx hp21 hb15 fun p22 c22 w55 x g h => ?_
    dsimp only [dS_slice]
    exact T19 cx fin x h
  · refine newBx hx [(H.n : Int)] fun b19 w69 x h => ?_
    exact T20 cx fin (hx.trans x) (hp21.ex x) (hb15.ex x) h
theorem T22 {H : Hd} {W : World} {D b2 b3 b4 : Nat} {p1 p20 : Option Addr} {c1 c20 : Nat} {R : Ending → World → Prop} (cx : Ctx H W b2 b3 b4 p20 c20) (fin : Fin H W D b4 p1 c1 R) {w83 : World} (hx : Ex W w83) {p21 : Option Addr} {c21 : Nat} {b22 : Nat} (hp21 : Sl W w83 p21 8 c21 (hd1 H)) (hb22 : Bx w83 b22 [(H.n : Int)]) : leaf_Encode.o22 D w83 H.s H.k H.m p21 8 c21 b22 b4 p1 H.n c1 R := by
  unfold leaf_Encode.o22
  refine newBx hx [H.s, H.k, (H.m : Int)] fun b23 w84 x h => ?_
  exact T20 cx fin (hx.trans x) (hp21.ex x) h (hb22.ex x)
theorem T23 {H : Hd} {W : World} {D b2 b3 b4 : Nat} {p1 p20 : Option Addr} {c1 c20 : Nat} {R : Ending → World → Prop} (cx : Ctx H W b2 b3 b4 p20 c20) (fin : Fin H W D b4 p1 c1 R) {w52 : World} (hx : Ex W w52) {p21 : Option Addr} {c21 : Nat} (hp21 : Sl W w52 p21 8 c21 (hd1 H)) : leaf_Encode.o23 D w52 H.s H.k H.m p21 8 c21 H.n b4 p1 c1 p20 c20 b2 R := by
  unfold leaf_Encode.o23
  refine ⟨?_, ?_⟩
  · refine newBx hx [H.s, H.k, (H.m : Int)] fun b15 w54 x h => ?_
    exact T21 cx fin (hx.trans x) (hp21.ex x) h
  · refine newBx hx [(H.n : Int)] fun b22 w83 x h => ?_
    refine ⟨(cx.k4.ex (hx.trans x)).at (by rfl), (cx.k2.ex (hx.trans x)).at (by rfl), (cx.k2.ex (hx.trans x)).at (by rfl), ?_⟩
    exact T22 cx fin (hx.trans x) (hp21.ex x) h
theorem T24 {H : Hd} {W : World} {D b2 b3 b4 : Nat} {p1 p20 : Option Addr} {c1 c20 : Nat} {R : Ending → World → Prop} (cx : Ctx H W b2 b3 b4 p20 c20) (fin : Fin H W D b4 p1 c1 R) {w129 : World} (hx : Ex W w129) {b13 : Nat} {b14 : Nat} {b26 : Nat} {b33 : Nat} (hb13 : Sl W w129 (some ⟨b13, 0, none⟩) 4 4 slat) (hb14 : Bx w129 b14 [H.q]) (hb26 : Bx w129 b26 [H.s, H.k, (H.m : Int)]) (hb33 : Bx w129 b33 [(H.n : Int)]) : leaf_Encode.o24 D b13 b14 w129 b26 b33 b4 p1 H.n c1 R := by
  unfold leaf_Encode.o24
  refine putA cx.ok hx hb13 hb14 fun p53 c53 w130 x g h => ?_
  dsimp only [dS_slice]
  exact T20 cx fin x h (g _ _ hb26) (g _ _ hb33)
theorem T25 {H : Hd} {W : World} {D b2 b3 b4 : Nat} {p1 p20 : Option Addr} {c1 c20 : Nat} {R : Ending → World → Prop} (cx : Ctx H W b2 b3 b4 p20 c20) (fin : Fin H W D b4 p1 c1 R) {w98 : World} (hx : Ex W w98) {b13 : Nat} {b14 : Nat} {b26 : Nat} (hb13 : Sl W w98 (some ⟨b13, 0, none⟩) 4 4 slat) (hb14 : Bx w98 b14 [H.q]) (hb26 : Bx w98 b26 [H.s, H.k, (H.m : Int)]) : leaf_Encode.o25 D b13 b14 w98 b26 H.n b4 p1 c1 R := by
  unfold leaf_Encode.o25
  refine ⟨?_, ?_⟩
  · refine putA cx.ok hx hb13 hb14 fun p40 c40 w99 x g h => ?_
    dsimp only [dS_slice]
    exact T21 cx fin x h (g _ _ hb26)
  · refine newBx hx [(H.n : Int)] fun b33 w129 x h => ?_
    exact T24 cx fin (hx.trans x) (hb13.ex x) (hb14.ex x) (hb26.ex x) h
theorem T26 {H : Hd} {W : World} {D b2 b3 b4 : Nat} {p1 p20 : Option Addr} {c1 c20 : Nat} {R : Ending → World → Prop} (cx : Ctx H W b2 b3 b4 p20 c20) (fin : Fin H W D b4 p1 c1 R) {w145 : World} (hx : Ex W w145) {b13 : Nat} {b14 : Nat} {b36 : Nat} (hb13 : Sl W w145 (some ⟨b13, 0, none⟩) 4 4 slat) (hb14 : Bx w145 b14 [H.q]) (hb36 : Bx w145 b36 [(H.n : Int)]) : leaf_Encode.o26 D b13 b14 w145 b4 p20 H.m c20 b2 H.k H.s b36 p1 H.n c1 R := by
  unfold leaf_Encode.o26
  refine ⟨?_, ?_⟩
  · refine putA cx.ok hx hb13 hb14 fun p60 c60 w146 x g h => ?_
    dsimp only [dS_slice]
    refine ⟨(cx.k4.ex x).at (by rfl), (cx.k2.ex x).at (by rfl), (cx.k2.ex x).at (by rfl), ?_⟩
    exact T22 cx fin x h (g _ _ hb36)
  · refine newBx hx [H.s, H.k, (H.m : Int)] fun b40 w162 x h => ?_
    exact T24 cx fin (hx.trans x) (hb13.ex x) (hb14.ex x) h (hb36.ex x)
theorem T27 {H : Hd} {W : World} {D b2 b3 b4 : Nat} {p1 p20 : Option Addr} {c1 c20 : Nat} {R : Ending → World → Prop} (cx : Ctx H W b2 b3 b4 p20 c20) (fin : Fin H W D b4 p1 c1 R) {w51 : World} (hx : Ex W w51) {b13 : Nat} {b14 : Nat} (hb13 : Sl W w51 (some ⟨b13, 0, none⟩) 4 4 slat) (hb14 : Bx w51 b14 [H.q]) : leaf_Encode.o27 D b13 b14 w51 b4 p20 H.m c20 b2 H.k H.s H.n p1 c1 R := by
  unfold leaf_Encode.o27
  refine ⟨?_, ?_, ?_⟩
  · refine putA cx.ok hx hb13 hb14 fun p21 c21 w52 x g h => ?_
    dsimp only [dS_slice]
    refine ⟨(cx.k4.ex x).at (by rfl), (cx.k2.ex x).at (by rfl), (cx.k2.ex x).at (by rfl), ?_⟩
    exact T23 cx fin x h
  · refine newBx hx [H.s, H.k, (H.m : Int)] fun b26 w98 x h => ?_
    exact T25 cx fin (hx.trans x) (hb13.ex x) (hb14.ex x) h
  · refine newBx hx [(H.n : Int)] fun b36 w145 x h => ?_
    refine ⟨(cx.k4.ex (hx.trans x)).at (by rfl), (cx.k2.ex (hx.trans x)).at (by rfl), (cx.k2.ex (hx.trans x)).at (by rfl), ?_⟩
    exact T26 cx fin (hx.trans x) (hb13.ex x) (hb14.ex x) h
theorem T28 {H : Hd} {W : World} {D b2 b3 b4 : Nat} {p1 p20 : Option Addr} {c1 c20 : Nat} {R : Ending → World → Prop} (cx : Ctx H W b2 b3 b4 p20 c20) (fin : Fin H W D b4 p1 c1 R) {w226 : World} (hx : Ex W w226) {b13 : Nat} {b43 : Nat} {b54 : Nat} (hb13 : Sl W w226 (some ⟨b13, 0, none⟩) 4 4 slat) (hb43 : Bx w226 b43 [H.s, H.k, (H.m : Int)]) (hb54 : Bx w226 b54 [(H.n : Int)]) : leaf_Encode.o28 D w226 H.q b13 b43 b54 b4 p1 H.n c1 R := by
  unfold leaf_Encode.o28
  refine newBx hx [H.q] fun b55 w227 x h => ?_
  exact T24 cx fin (hx.trans x) (hb13.ex x) h (hb43.ex x) (hb54.ex x)
theorem T29 {H : Hd} {W : World} {D b2 b3 b4 : Nat} {p1 p20 : Option Addr} {c1 c20 : Nat} {R : Ending → World → Prop} (cx : Ctx H W b2 b3 b4 p20 c20) (fin : Fin H W D b4 p1 c1 R) {w178 : World} (hx : Ex W w178) {b13 : Nat} {b43 : Nat} (hb13 : Sl W w178 (some ⟨b13, 0, none⟩) 4 4 slat) (hb43 : Bx w178 b43 [H.s, H.k, (H.m : Int)]) : leaf_Encode.o29 D w178 H.q b13 b43 H.n b4 p1 c1 b3 R := by
  unfold leaf_Encode.o29
  refine ⟨?_, ?_⟩
  · refine newBx hx [H.q] fun b44 w179 x h => ?_
    exact T25 cx fin (hx.trans x) (hb13.ex x) h (hb43.ex x)
  · refine newBx hx [(H.n : Int)] fun b54 w226 x h => ?_
    refine ⟨(cx.k3.ex (hx.trans x)).at (by rfl), ?_⟩
    exact T28 cx fin (hx.trans x) (hb13.ex x) (hb43.ex x) h
theorem T30 {H : Hd} {W : World} {D b2 b3 b4 : Nat} {p1 p20 : Option Addr} {c1 c20 : Nat} {R : Ending → World → Prop} (cx : Ctx H W b2 b3 b4 p20 c20) (fin : Fin H W D b4 p1 c1 R) {w243 : World} (hx : Ex W w243) {b13 : Nat} {b58 : Nat} (hb13 : Sl W w243 (some ⟨b13, 0, none⟩) 4 4 slat) (hb58 : Bx w243 b58 [(H.n : Int)]) : leaf_Encode.o30 D w243 H.q b4 p20 H.m c20 b2 H.k H.s b13 b58 p1 H.n c1 b3 R := by
  unfold leaf_Encode.o30
  refine ⟨?_, ?_⟩
  · refine newBx hx [H.q] fun b59 w244 x h => ?_
    refine ⟨(cx.k4.ex (hx.trans x)).at (by rfl), (cx.k2.ex (hx.trans x)).at (by rfl), (cx.k2.ex (hx.trans x)).at (by rfl), ?_⟩
    exact T26 cx fin (hx.trans x) (hb13.ex x) h (hb58.ex x)
  · refine newBx hx [H.s, H.k, (H.m : Int)] fun b66 w277 x h => ?_
    refine ⟨(cx.k3.ex (hx.trans x)).at (by rfl), ?_⟩
    exact T28 cx fin (hx.trans x) (hb13.ex x) h (hb58.ex x)
theorem T31 {H : Hd} {W : World} {D b2 b3 b4 : Nat} {p1 p20 : Option Addr} {c1 c20 : Nat} {R : Ending → World → Prop} (cx : Ctx H W b2 b3 b4 p20 c20) (fin : Fin H W D b4 p1 c1 R) {w50 : World} (hx : Ex W w50) {b13 : Nat} (hb13 : Sl W w50 (some ⟨b13, 0, none⟩) 4 4 slat) : leaf_Encode.o31 D w50 H.q b4 p20 H.m c20 b2 H.k H.s b13 H.n p1 c1 b3 R := by
  unfold leaf_Encode.o31
  refine ⟨?_, ?_, ?_⟩
  · refine newBx hx [H.q] fun b14 w51 x h => ?_
    refine ⟨(cx.k4.ex (hx.trans x)).at (by rfl), (cx.k2.ex (hx.trans x)).at (by rfl), (cx.k2.ex (hx.trans x)).at (by rfl), ?_⟩
    exact T27 cx fin (hx.trans x) (hb13.ex x) h
  · refine newBx hx [H.s, H.k, (H.m : Int)] fun b43 w178 x h => ?_
    refine ⟨(cx.k3.ex (hx.trans x)).at (by rfl), ?_⟩
    exact T29 cx fin (hx.trans x) (hb13.ex x) h
  · refine newBx hx [(H.n : Int)] fun b58 w243 x h => ?_
    refine ⟨(cx.k4.ex (hx.trans x)).at (by rfl), (cx.k2.ex (hx.trans x)).at (by rfl), (cx.k2.ex (hx.trans x)).at (by rfl), (cx.k3.ex (hx.trans x)).at (by rfl), ?_⟩
    exact T30 cx fin (hx.trans x) (hb13.ex x) h
theorem T32 {H : Hd} {W : World} {D b2 b3 b4 : Nat} {p1 p20 : Option Addr} {c1 c20 : Nat} {R : Ending → World → Prop} (cx : Ctx H W b2 b3 b4 p20 c20) (fin : Fin H W D b4 p1 c1 R) {w470 : World} (hx : Ex W w470) {b13 : Nat} {b70 : Nat} {b99 : Nat} {b109 : Nat} (hb13 : Raw W w470 b13) (hb70 : Bx w470 b70 [H.q]) (hb99 : Bx w470 b99 [H.s, H.k, (H.m : Int)]) (hb109 : Bx w470 b109 [(H.n : Int)]) : leaf_Encode.o32 D w470 b13 b70 b99 b109 b4 p1 H.n c1 R := by
  unfold leaf_Encode.o32
  refine mark hx hb13 fun w471 x g h => ?_
  exact T24 cx fin x h (g _ _ hb70) (g _ _ hb99) (g _ _ hb109)
theorem T33 {H : Hd} {W : World} {D b2 b3 b4 : Nat} {p1 p20 : Option Addr} {c1 c20 : Nat} {R : Ending → World → Prop} (cx : Ctx H W b2 b3 b4 p20 c20) (fin : Fin H W D b4 p1 c1 R) {w422 : World} (hx : Ex W w422) {b13 : Nat} {b70 : Nat} {b99 : Nat} (hb13 : Raw W w422 b13) (hb70 : Bx w422 b70 [H.q]) (hb99 : Bx w422 b99 [H.s, H.k, (H.m : Int)]) : leaf_Encode.o33 D w422 b13 b70 b99 H.n b4 p1 c1 R := by
  unfold leaf_Encode.o33
  refine ⟨?_, ?_⟩
  · refine mark hx hb13 fun w423 x g h => ?_
    exact T25 cx fin x h (g _ _ hb70) (g _ _ hb99)
  · refine newBx hx [(H.n : Int)] fun b109 w470 x h => ?_
    exact T32 cx fin (hx.trans x) (hb13.ex x) (hb70.ex x) (hb99.ex x) h
theorem T34 {H : Hd} {W : World} {D b2 b3 b4 : Nat} {p1 p20 : Option Addr} {c1 c20 : Nat} {R : Ending → World → Prop} (cx : Ctx H W b2 b3 b4 p20 c20) (fin : Fin H W D b4 p1 c1 R) {w487 : World} (hx : Ex W w487) {b13 : Nat} {b70 : Nat} {b112 : Nat} (hb13 : Raw W w487 b13) (hb70 : Bx w487 b70 [H.q]) (hb112 : Bx w487 b112 [(H.n : Int)]) : leaf_Encode.o34 D w487 b13 b4 p20 H.m c20 b2 H.k H.s b70 b112 p1 H.n c1 R := by
  unfold leaf_Encode.o34
  refine ⟨?_, ?_⟩
  · refine mark hx hb13 fun w488 x g h => ?_
    refine ⟨(cx.k4.ex x).at (by rfl), (cx.k2.ex x).at (by rfl), (cx.k2.ex x).at (by rfl), ?_⟩
    exact T26 cx fin x h (g _ _ hb70) (g _ _ hb112)
  · refine newBx hx [H.s, H.k, (H.m : Int)] fun b119 w521 x h => ?_
    exact T32 cx fin (hx.trans x) (hb13.ex x) (hb70.ex x) h (hb112.ex x)
theorem T35 {H : Hd} {W : World} {D b2 b3 b4 : Nat} {p1 p20 : Option Addr} {c1 c20 : Nat} {R : Ending → World → Prop} (cx : Ctx H W b2 b3 b4 p20 c20) (fin : Fin H W D b4 p1 c1 R) {w294 : World} (hx : Ex W w294) {b13 : Nat} {b70 : Nat} (hb13 : Raw W w294 b13) (hb70 : Bx w294 b70 [H.q]) : leaf_Encode.o35 D w294 b13 b4 p20 H.m c20 b2 H.k H.s b70 H.n p1 c1 R := by
  unfold leaf_Encode.o35
  refine ⟨?_, ?_, ?_⟩
  · refine mark hx hb13 fun w295 x g h => ?_
    refine ⟨(cx.k4.ex x).at (by rfl), (cx.k2.ex x).at (by rfl), (cx.k2.ex x).at (by rfl), ?_⟩
    exact T27 cx fin x h (g _ _ hb70)
  · refine newBx hx [H.s, H.k, (H.m : Int)] fun b99 w422 x h => ?_
    exact T33 cx fin (hx.trans x) (hb13.ex x) (hb70.ex x) h
  · refine newBx hx [(H.n : Int)] fun b112 w487 x h => ?_
    refine ⟨(cx.k4.ex (hx.trans x)).at (by rfl), (cx.k2.ex (hx.trans x)).at (by rfl), (cx.k2.ex (hx.trans x)).at (by rfl), ?_⟩
    exact T34 cx fin (hx.trans x) (hb13.ex x) (hb70.ex x) h
theorem T36 {H : Hd} {W : World} {D b2 b3 b4 : Nat} {p1 p20 : Option Addr} {c1 c20 : Nat} {R : Ending → World → Prop} (cx : Ctx H W b2 b3 b4 p20 c20) (fin : Fin H W D b4 p1 c1 R) {w669 : World} (hx : Ex W w669) {b13 : Nat} {b122 : Nat} {b150 : Nat} (hb13 : Raw W w669 b13) (hb122 : Bx w669 b122 [H.s, H.k, (H.m : Int)]) (hb150 : Bx w669 b150 [(H.n : Int)]) : leaf_Encode.o36 D w669 b13 b3 H.q b122 b150 b4 p1 H.n c1 R := by
  unfold leaf_Encode.o36
  refine ⟨?_, ?_⟩
  · refine mark hx hb13 fun w670 x g h => ?_
    refine ⟨(cx.k3.ex x).at (by rfl), ?_⟩
    exact T28 cx fin x h (g _ _ hb122) (g _ _ hb150)
  · refine newBx hx [H.q] fun b154 w687 x h => ?_
    exact T32 cx fin (hx.trans x) (hb13.ex x) h (hb122.ex x) (hb150.ex x)
theorem T37 {H : Hd} {W : World} {D b2 b3 b4 : Nat} {p1 p20 : Option Addr} {c1 c20 : Nat} {R : Ending → World → Prop} (cx : Ctx H W b2 b3 b4 p20 c20) (fin : Fin H W D b4 p1 c1 R) {w538 : World} (hx : Ex W w538) {b13 : Nat} {b122 : Nat} (hb13 : Raw W w538 b13) (hb122 : Bx w538 b122 [H.s, H.k, (H.m : Int)]) : leaf_Encode.o37 D w538 b13 b3 H.q b122 H.n b4 p1 c1 R := by
  unfold leaf_Encode.o37
  refine ⟨?_, ?_, ?_⟩
  · refine mark hx hb13 fun w539 x g h => ?_
    refine ⟨(cx.k3.ex x).at (by rfl), ?_⟩
    exact T29 cx fin x h (g _ _ hb122)
  · refine newBx hx [H.q] fun b137 w604 x h => ?_
    exact T33 cx fin (hx.trans x) (hb13.ex x) h (hb122.ex x)
  · refine newBx hx [(H.n : Int)] fun b150 w669 x h => ?_
    refine ⟨(cx.k3.ex (hx.trans x)).at (by rfl), ?_⟩
    exact T36 cx fin (hx.trans x) (hb13.ex x) (hb122.ex x) h
theorem T38 {H : Hd} {W : World} {D b2 b3 b4 : Nat} {p1 p20 : Option Addr} {c1 c20 : Nat} {R : Ending → World → Prop} (cx : Ctx H W b2 b3 b4 p20 c20) (fin : Fin H W D b4 p1 c1 R) {w704 : World} (hx : Ex W w704) {b13 : Nat} {b157 : Nat} (hb13 : Raw W w704 b13) (hb157 : Bx w704 b157 [(H.n : Int)]) : leaf_Encode.o38 D w704 b13 b4 p20 H.m c20 b2 H.k H.s b3 H.q b157 p1 H.n c1 R := by
  unfold leaf_Encode.o38
  refine ⟨?_, ?_, ?_⟩
  · refine mark hx hb13 fun w705 x g h => ?_
    refine ⟨(cx.k4.ex x).at (by rfl), (cx.k2.ex x).at (by rfl), (cx.k2.ex x).at (by rfl), (cx.k3.ex x).at (by rfl), ?_⟩
    exact T30 cx fin x h (g _ _ hb157)
  · refine newBx hx [H.q] fun b169 w756 x h => ?_
    refine ⟨(cx.k4.ex (hx.trans x)).at (by rfl), (cx.k2.ex (hx.trans x)).at (by rfl), (cx.k2.ex (hx.trans x)).at (by rfl), ?_⟩
    exact T34 cx fin (hx.trans x) (hb13.ex x) h (hb157.ex x)
  · refine newBx hx [H.s, H.k, (H.m : Int)] fun b179 w807 x h => ?_
    refine ⟨(cx.k3.ex (hx.trans x)).at (by rfl), ?_⟩
    exact T36 cx fin (hx.trans x) (hb13.ex x) h (hb157.ex x)
theorem T39 {H : Hd} {W : World} {D b2 b3 b4 : Nat} {p1 p20 : Option Addr} {c1 c20 : Nat} {R : Ending → World → Prop} (cx : Ctx H W b2 b3 b4 p20 c20) (fin : Fin H W D b4 p1 c1 R) {w49 : World} (hx : Ex W w49) {b13 : Nat} (hb13 : Raw W w49 b13) : leaf_Encode.o39 D w49 b13 b4 p20 H.m c20 b2 H.k H.s b3 H.q H.n p1 c1 R := by
  unfold leaf_Encode.o39
  refine ⟨?_, ?_, ?_, ?_⟩
  · refine mark hx hb13 fun w50 x g h => ?_
    refine ⟨(cx.k4.ex x).at (by rfl), (cx.k2.ex x).at (by rfl), (cx.k2.ex x).at (by rfl), (cx.k3.ex x).at (by rfl), ?_⟩
    exact T31 cx fin x h
  · refine newBx hx [H.q] fun b70 w294 x h => ?_
    refine ⟨(cx.k4.ex (hx.trans x)).at (by rfl), (cx.k2.ex (hx.trans x)).at (by rfl), (cx.k2.ex (hx.trans x)).at (by rfl), ?_⟩
    exact T35 cx fin (hx.trans x) (hb13.ex x) h
  · refine newBx hx [H.s, H.k, (H.m : Int)] fun b122 w538 x h => ?_
    refine ⟨(cx.k3.ex (hx.trans x)).at (by rfl), ?_⟩
    exact T37 cx fin (hx.trans x) (hb13.ex x) h
  · refine newBx hx [(H.n : Int)] fun b157 w704 x h => ?_
    refine ⟨(cx.k4.ex (hx.trans x)).at (by rfl), (cx.k2.ex (hx.trans x)).at (by rfl), (cx.k2.ex (hx.trans x)).at (by rfl), (cx.k3.ex (hx.trans x)).at (by rfl), ?_⟩
    exact T38 cx fin (hx.trans x) (hb13.ex x) h
theorem T40 {H : Hd} {W : World} {D b2 b3 b4 : Nat} {p1 p20 : Option Addr} {c1 c20 : Nat} {R : Ending → World → Prop} (cx : Ctx H W b2 b3 b4 p20 c20) (fin : Fin H W D b4 p1 c1 R) {w1153 : World} (hx : Ex W w1153) {b186 : Nat} {b239 : Nat} {b253 : Nat} (hb186 : Bx w1153 b186 [H.q]) (hb239 : Bx w1153 b239 [H.s, H.k, (H.m : Int)]) (hb253 : Bx w1153 b253 [(H.n : Int)]) : leaf_Encode.o40 D w1153 b186 b239 b253 b4 p1 H.n c1 R := by
  unfold leaf_Encode.o40
  refine newRaw hx fun b254 w1154 x h => ?_
  exact T32 cx fin (hx.trans x) h (hb186.ex x) (hb239.ex x) (hb253.ex x)
theorem T41 {H : Hd} {W : World} {D b2 b3 b4 : Nat} {p1 p20 : Option Addr} {c1 c20 : Nat} {R : Ending → World → Prop} (cx : Ctx H W b2 b3 b4 p20 c20) (fin : Fin H W D b4 p1 c1 R) {w1087 : World} (hx : Ex W w1087) {b186 : Nat} {b239 : Nat} (hb186 : Bx w1087 b186 [H.q]) (hb239 : Bx w1087 b239 [H.s, H.k, (H.m : Int)]) : leaf_Encode.o41 D w1087 b186 b239 H.n b4 p1 c1 R := by
  unfold leaf_Encode.o41
  refine ⟨?_, ?_⟩
  · refine newRaw hx fun b240 w1088 x h => ?_
    exact T33 cx fin (hx.trans x) h (hb186.ex x) (hb239.ex x)
  · refine newBx hx [(H.n : Int)] fun b253 w1153 x h => ?_
    exact T40 cx fin (hx.trans x) (hb186.ex x) (hb239.ex x) h
theorem T42 {H : Hd} {W : World} {D b2 b3 b4 : Nat} {p1 p20 : Option Addr} {c1 c20 : Nat} {R : Ending → World → Prop} (cx : Ctx H W b2 b3 b4 p20 c20) (fin : Fin H W D b4 p1 c1 R) {w1171 : World} (hx : Ex W w1171) {b186 : Nat} {b257 : Nat} (hb186 : Bx w1171 b186 [H.q]) (hb257 : Bx w1171 b257 [(H.n : Int)]) : leaf_Encode.o42 D w1171 b4 p20 H.m c20 b2 H.k H.s b186 b257 p1 H.n c1 R := by
  unfold leaf_Encode.o42
  refine ⟨?_, ?_⟩
  · refine newRaw hx fun b258 w1172 x h => ?_
    refine ⟨(cx.k4.ex (hx.trans x)).at (by rfl), (cx.k2.ex (hx.trans x)).at (by rfl), (cx.k2.ex (hx.trans x)).at (by rfl), ?_⟩
    exact T34 cx fin (hx.trans x) h (hb186.ex x) (hb257.ex x)
  · refine newBx hx [H.s, H.k, (H.m : Int)] fun b268 w1223 x h => ?_
    exact T40 cx fin (hx.trans x) (hb186.ex x) h (hb257.ex x)
theorem T43 {H : Hd} {W : World} {D b2 b3 b4 : Nat} {p1 p20 : Option Addr} {c1 c20 : Nat} {R : Ending → World → Prop} (cx : Ctx H W b2 b3 b4 p20 c20) (fin : Fin H W D b4 p1 c1 R) {w842 : World} (hx : Ex W w842) {b186 : Nat} (hb186 : Bx w842 b186 [H.q]) : leaf_Encode.o43 D w842 b4 p20 H.m c20 b2 H.k H.s b186 H.n p1 c1 R := by
  unfold leaf_Encode.o43
  refine ⟨?_, ?_, ?_⟩
  · refine newRaw hx fun b187 w843 x h => ?_
    refine ⟨(cx.k4.ex (hx.trans x)).at (by rfl), (cx.k2.ex (hx.trans x)).at (by rfl), (cx.k2.ex (hx.trans x)).at (by rfl), ?_⟩
    exact T35 cx fin (hx.trans x) h (hb186.ex x)
  · refine newBx hx [H.s, H.k, (H.m : Int)] fun b239 w1087 x h => ?_
    exact T41 cx fin (hx.trans x) (hb186.ex x) h
  · refine newBx hx [(H.n : Int)] fun b257 w1171 x h => ?_
    refine ⟨(cx.k4.ex (hx.trans x)).at (by rfl), (cx.k2.ex (hx.trans x)).at (by rfl), (cx.k2.ex (hx.trans x)).at (by rfl), ?_⟩
    exact T42 cx fin (hx.trans x) (hb186.ex x) h
theorem T44 {H : Hd} {W : World} {D b2 b3 b4 : Nat} {p1 p20 : Option Addr} {c1 c20 : Nat} {R : Ending → World → Prop} (cx : Ctx H W b2 b3 b4 p20 c20) (fin : Fin H W D b4 p1 c1 R) {w1492 : World} (hx : Ex W w1492) {b272 : Nat} {b326 : Nat} (hb272 : Bx w1492 b272 [H.s, H.k, (H.m : Int)]) (hb326 : Bx w1492 b326 [(H.n : Int)]) : leaf_Encode.o44 D w1492 b3 H.q b272 b326 b4 p1 H.n c1 R := by
  unfold leaf_Encode.o44
  refine ⟨?_, ?_⟩
  · refine newRaw hx fun b327 w1493 x h => ?_
    refine ⟨(cx.k3.ex (hx.trans x)).at (by rfl), ?_⟩
    exact T36 cx fin (hx.trans x) h (hb272.ex x) (hb326.ex x)
  · refine newBx hx [H.q] fun b334 w1528 x h => ?_
    exact T40 cx fin (hx.trans x) h (hb272.ex x) (hb326.ex x)
theorem T45 {H : Hd} {W : World} {D b2 b3 b4 : Nat} {p1 p20 : Option Addr} {c1 c20 : Nat} {R : Ending → World → Prop} (cx : Ctx H W b2 b3 b4 p20 c20) (fin : Fin H W D b4 p1 c1 R) {w1241 : World} (hx : Ex W w1241) {b272 : Nat} (hb272 : Bx w1241 b272 [H.s, H.k, (H.m : Int)]) : leaf_Encode.o45 D w1241 b3 H.q b272 H.n b4 p1 c1 R := by
  unfold leaf_Encode.o45
  refine ⟨?_, ?_, ?_⟩
  · refine newRaw hx fun b273 w1242 x h => ?_
    refine ⟨(cx.k3.ex (hx.trans x)).at (by rfl), ?_⟩
    exact T37 cx fin (hx.trans x) h (hb272.ex x)
  · refine newBx hx [H.q] fun b308 w1408 x h => ?_
    exact T41 cx fin (hx.trans x) h (hb272.ex x)
  · refine newBx hx [(H.n : Int)] fun b326 w1492 x h => ?_
    refine ⟨(cx.k3.ex (hx.trans x)).at (by rfl), ?_⟩
    exact T44 cx fin (hx.trans x) (hb272.ex x) h
theorem T46 {H : Hd} {W : World} {D b2 b3 b4 : Nat} {p1 p20 : Option Addr} {c1 c20 : Nat} {R : Ending → World → Prop} (cx : Ctx H W b2 b3 b4 p20 c20) (fin : Fin H W D b4 p1 c1 R) {w1546 : World} (hx : Ex W w1546) {b338 : Nat} (hb338 : Bx w1546 b338 [(H.n : Int)]) : leaf_Encode.o46 D w1546 b4 p20 H.m c20 b2 H.k H.s b3 H.q b338 p1 H.n c1 R := by
  unfold leaf_Encode.o46
  refine ⟨?_, ?_, ?_⟩
  · refine newRaw hx fun b339 w1547 x h => ?_
    refine ⟨(cx.k4.ex (hx.trans x)).at (by rfl), (cx.k2.ex (hx.trans x)).at (by rfl), (cx.k2.ex (hx.trans x)).at (by rfl), (cx.k3.ex (hx.trans x)).at (by rfl), ?_⟩
    exact T38 cx fin (hx.trans x) h (hb338.ex x)
  · refine newBx hx [H.q] fun b368 w1685 x h => ?_
    refine ⟨(cx.k4.ex (hx.trans x)).at (by rfl), (cx.k2.ex (hx.trans x)).at (by rfl), (cx.k2.ex (hx.trans x)).at (by rfl), ?_⟩
    exact T42 cx fin (hx.trans x) h (hb338.ex x)
  · refine newBx hx [H.s, H.k, (H.m : Int)] fun b383 w1755 x h => ?_
    refine ⟨(cx.k3.ex (hx.trans x)).at (by rfl), ?_⟩
    exact T44 cx fin (hx.trans x) h (hb338.ex x)
theorem T47 {H : Hd} {W : World} {D b2 b3 b4 : Nat} {p1 p20 : Option Addr} {c1 c20 : Nat} {R : Ending → World → Prop} (cx : Ctx H W b2 b3 b4 p20 c20) (fin : Fin H W D b4 p1 c1 R) {w12 : World} (hx : Ex W w12)   : leaf_Encode.o47 D w12 b4 p20 H.m c20 b2 H.k H.s b3 H.q H.n p1 c1 R := by
  unfold leaf_Encode.o47
  refine ⟨?_, ?_, ?_, ?_⟩
  · refine newRaw (hx.trans (Ex.drew _)) fun b13 w49 x h => ?_
    refine ⟨(cx.k4.ex ((hx.trans (Ex.drew _)).trans x)).at (by rfl), (cx.k2.ex ((hx.trans (Ex.drew _)).trans x)).at (by rfl), (cx.k2.ex ((hx.trans (Ex.drew _)).trans x)).at (by rfl), (cx.k3.ex ((hx.trans (Ex.drew _)).trans x)).at (by rfl), ?_⟩
    exact T39 cx fin ((hx.trans (Ex.drew _)).trans x) h
  · refine newBx (hx.trans (Ex.drew _)) [H.q] fun b186 w842 x h => ?_
    refine ⟨(cx.k4.ex ((hx.trans (Ex.drew _)).trans x)).at (by rfl), (cx.k2.ex ((hx.trans (Ex.drew _)).trans x)).at (by rfl), (cx.k2.ex ((hx.trans (Ex.drew _)).trans x)).at (by rfl), ?_⟩
    exact T43 cx fin ((hx.trans (Ex.drew _)).trans x) h
  · refine newBx (hx.trans (Ex.drew _)) [H.s, H.k, (H.m : Int)] fun b272 w1241 x h => ?_
    refine ⟨(cx.k3.ex ((hx.trans (Ex.drew _)).trans x)).at (by rfl), ?_⟩
    exact T45 cx fin ((hx.trans (Ex.drew _)).trans x) h
  · refine newBx (hx.trans (Ex.drew _)) [(H.n : Int)] fun b338 w1546 x h => ?_
    refine ⟨(cx.k4.ex ((hx.trans (Ex.drew _)).trans x)).at (by rfl), (cx.k2.ex ((hx.trans (Ex.drew _)).trans x)).at (by rfl), (cx.k2.ex ((hx.trans (Ex.drew _)).trans x)).at (by rfl), (cx.k3.ex ((hx.trans (Ex.drew _)).trans x)).at (by rfl), ?_⟩
    exact T46 cx fin ((hx.trans (Ex.drew _)).trans x) h
end Go.Proofs.Ythgmebhkbbehmaa.G.En
