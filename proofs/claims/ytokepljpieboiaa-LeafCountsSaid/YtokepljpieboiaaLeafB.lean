/-
  leaf.Encode's pieces: words for them; slices.Chunk's iterator over bytes; the body of its round.
-/
import Derived.Test.YtokepljpieboiaaLeafA
namespace Go.Proofs.Ytokepljpieboiaa.G
open Go.Dec Go.RowKit
set_option linter.unusedVariables false
set_option linter.unusedSimpArgs false

def slat : List Int := [83, 76, 65, 84]
def hdr1 : List Int := slat ++ [0, 0, 0, 5]
def hdr2 : List Int := hdr1 ++ [6, 2, 1]
def hdr3 : List Int := hdr2 ++ [0, 16]
theorem row5 : Cel.rowB 4 [5] = [0, 0, 0, 5] := by decide
theorem row621 : Cel.rowB 1 [6, 2, 1] = [6, 2, 1] := by decide
theorem row16 : Cel.rowB 2 [16] = [0, 16] := by decide
def Bx (w : World) (b : Nat) (l : List Int) : Prop := Owns w 0 ty_int 1 (some ⟨b, 0, none⟩) l.length l.length (Cel.v64 l)
def Sl (W w : World) (p : Option Addr) (n c : Nat) (xs : List Int) : Prop := Owns w W.heap.size ty_uint8 1 p n c (v8 xs)
/-- "SLAT" as it was laid -/
def Raw (W w : World) (b : Nat) : Prop := W.heap.size ≤ b ∧ w.heap[b]? = some (.cells (v8 slat).toArray ty_uint8 (0, 0))
theorem Bx.ex {w w' : World} {b : Nat} {l : List Int} (h : Bx w b l) (x : Ex w w') : Bx w' b l := Owns.ex h x
theorem Sl.ex {W w w' : World} {p : Option Addr} {n c : Nat} {xs : List Int} (h : Sl W w p n c xs) (x : Ex w w') : Sl W w' p n c xs := Owns.ex h x
theorem Raw.ex {W w w' : World} {b : Nat} (h : Raw W w b) (x : Ex w w') : Raw W w' b := ⟨h.1, by rw [x.block b (Array.getElem?_eq_some_iff.1 h.2).1 id]; exact h.2⟩
theorem newBx {W w : World} (hx : Ex W w) (l : List Int) {N : Nat → World → Prop} (K : ∀ b w', Ex w w' → Bx w' b l → N b w') : newP w (Cel.v64 l).toArray ty_int N := by
  rintro b w' rfl rfl
  have o := Owns.alloc (w := w) (Cel.v64 l) ty_int 1 l.length (by simp [Cel.v64])
  exact K _ _ (Ex.alloc w _) (o.lower (Nat.zero_le _))
theorem newRaw {W w : World} (hx : Ex W w) {N : Nat → World → Prop} (K : ∀ b w', Ex w w' → Raw W w' b → N b w') : newP w (v8 slat).toArray ty_uint8 N := by
  rintro b w' rfl rfl
  exact K _ _ (Ex.alloc w _) ⟨hx.size, heap_alloc_at w _⟩
theorem mark {W w : World} {b : Nat} (hx : Ex W w) (h : Raw W w b) {N : World → Prop} (K : ∀ w', Ex W w' → (∀ b l, Bx w b l → Bx w' b l) → Sl W w' (some ⟨b, 0, none⟩) 4 4 slat → N w') : markP w ⟨b, 0, none⟩ N := by
  refine ⟨_, _, _, h.2, fun w' hw => ?_⟩
  subst hw
  have k := Kp.freeze w ⟨b, (v8 slat).toArray.size, none⟩ 1
  have t : Typed w ty_uint8 b := ⟨_, _, h.2⟩
  refine K _ (hx.then k fun i hi => ?_) (fun b' l hb => ?_) ?_
  · dsimp only at hi
    rw [hi]; exact h.1
  · exact Owns.away hb k ty_uint8 (fun i hi => by dsimp only at hi; rw [hi]; exact t) (by decide)
  · refine ⟨rfl, Nat.le_refl _, .inr ⟨b, (v8 slat).toArray, (4, 5), rfl, h.1, ?_, .inr (by decide), by decide, rfl⟩⟩
    unfold World.freeze
    simp [h.2, Array.getElem?_modify]
    rfl
structure Ctx (W : World) (b2 b3 b4 : Nat) (p20 : Option Addr) (c20 : Nat) : Prop where
  k2 : Owns W 0 ty_api_Plat 2 (some ⟨b2, 0, none⟩) 1 1 [.int .i64 6, .int .i64 2]
  k3 : Owns W 0 ty_int 1 (some ⟨b3, 0, none⟩) 1 1 [.int .i64 5]
  k4 : Owns W 0 ty_sl_sl_uint8 1 (some ⟨b4, 0, none⟩) 1 1 [.slice p20 1 c20]
def Fin (W : World) (D b4 : Nat) (p1 : Option Addr) (c1 : Nat) (R : Ending → World → Prop) : Prop :=
  ∀ (p23 : Option Addr) (c23 : Nat) (w58 : World), Ex W w58 → Sl W w58 p23 13 c23 hdr3 → ∃ (p24 : Option Addr) (n18 c24 : Nat), w58.drew.cell? (⟨b4, 0, none⟩ : Addr) = some (.slice p24 n18 c24) ∧ leaf_Encode.o17 D p1 16 c1 w58 b4 p24 n18 c24 p23 13 c23 R
theorem putX {W w : World} {N : Value → World → Prop} {X : List PanicEntry → World → Prop} (hx : Ex W w) {p : Option Addr} {n c : Nat} {xs : List Int} (h1 : Sl W w p n c xs) {b : Nat} {l : List Int} (h2 : Bx w b l) {s : Int} {r : List Int} (hr : Cel.rowB s l = r) (hn : n ≤ 1000) (hl : l.length ≤ 10)
    (K : ∀ p c w', Ex W w' → (∀ b l, Bx w b l → Bx w' b l) → Sl W w' p (n + r.length) c (xs ++ r) → N (.slice p (n + r.length) c) w') : callP Try.prog 34 #[.slice p n c, .int .i64 s, .slice (some ⟨b, 0, none⟩) l.length l.length] w N X := by
  refine callP.use (put_spec h1 hx.size s (Owns.cells h2) rfl (by omega) (by omega)) ?_
  rintro _ w' ⟨p', c', rfl, o, k⟩
  rw [hr] at o ⊢
  refine K p' c' w' (hx.then k fun i ⟨x, e, hi⟩ => by have := (Owns.ge h1 e).1; omega) (fun b' l' hb => ?_) o
  exact Owns.away hb k ty_uint8 (fun i ⟨x, e, hi⟩ => hi ▸ (Owns.typed h1 e).1) (by decide)
theorem putA {W w : World} {N : Value → World → Prop} {X : List PanicEntry → World → Prop} (hx : Ex W w) {b13 b14 : Nat} (h13 : Sl W w (some ⟨b13, 0, none⟩) 4 4 slat) (h14 : Bx w b14 [5])
    (K : ∀ p c w', Ex W w' → (∀ b l, Bx w b l → Bx w' b l) → Sl W w' p 8 c hdr1 → N (.slice p 8 c) w') : callP Try.prog 34 #[.slice (some ⟨b13, 0, none⟩) 4 4, .int .i64 4, .slice (some ⟨b14, 0, none⟩) 1 1] w N X :=
  putX hx h13 h14 row5 (by omega) (by decide) K
theorem putB {W w : World} {N : Value → World → Prop} {X : List PanicEntry → World → Prop} (hx : Ex W w) {p21 : Option Addr} {c21 b15 : Nat} (s1 : Sl W w p21 8 c21 hdr1) (h15 : Bx w b15 [6, 2, 1])
    (K : ∀ p c w', Ex W w' → (∀ b l, Bx w b l → Bx w' b l) → Sl W w' p 11 c hdr2 → N (.slice p 11 c) w') : callP Try.prog 34 #[.slice p21 8 c21, .int .i64 1, .slice (some ⟨b15, 0, none⟩) 3 3] w N X :=
  putX hx s1 h15 row621 (by omega) (by decide) K
theorem putC {W w : World} {N : Value → World → Prop} {X : List PanicEntry → World → Prop} (hx : Ex W w) {p22 : Option Addr} {c22 b16 : Nat} (s2 : Sl W w p22 11 c22 hdr2) (h16 : Bx w b16 [16])
    (K : ∀ p c w', Ex W w' → (∀ b l, Bx w b l → Bx w' b l) → Sl W w' p 13 c hdr3 → N (.slice p 13 c) w') : callP Try.prog 34 #[.slice p22 11 c22, .int .i64 2, .slice (some ⟨b16, 0, none⟩) 1 1] w N X :=
  putX hx s2 h16 row16 (by omega) (by decide) K
end Go.Proofs.Ytokepljpieboiaa.G
