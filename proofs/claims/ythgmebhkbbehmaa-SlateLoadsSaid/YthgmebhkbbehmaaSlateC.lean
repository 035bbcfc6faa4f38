/-
  slate.Load of any device, the whole; a device that was just made and saved to.
-/
import Derived.Test.YthgmebhkbbehmaaSlateB
namespace Go.Proofs.Ythgmebhkbbehmaa.G.Sl
open Go.Dec Go.RowKit En
set_option linter.unusedVariables false
set_option linter.unusedSimpArgs false

def LoadI (w : World) (pd b1 b2 : Nat) (d : Bas.Dev) (t0 : Option Addr) (t2 t3 : Nat) (t4 t17 : Int) (W : World) : Prop :=
  t0 = some ⟨pd, 0, none⟩ ∧ b1 = t2 ∧ b2 = t3 ∧ 0 ≤ t17 ∧ t17 ≤ 2 ∧ t4 = (accs d t17.toNat).2.2.2 ∧ Kept w b1 b2 (accs d t17.toNat) W
def LoadS (c : Acc) (w : World) (v : Value) (w' : World) : Prop :=
  (∃ ps, v = .tuple #[.agg (stC c.1 ps).toArray, .agg (two c.2.1 c.2.2.1).toArray, .int .i64 c.2.2.2, .int .i64 (if c.2.2.2 = 0 then 11 else 0)] ∧ StO w' c.1 ps) ∧ Ex w w'
theorem Kept.out {w W : World} {b1 b2 : Nat} {c : Acc} (h : Kept w b1 b2 c W) {N : Array Value → Array Value → World → Prop} (K : ∀ ps w', Ex w w' → StO w' c.1 ps → N (stC c.1 ps).toArray (two c.2.1 c.2.2.1).toArray w') :
    ∃ (cs15 : Array Value), cs15.size = 24 ∧ CellsAt W.drew (⟨b1, 0, none⟩ : Addr) cs15.toList ∧
    (∃ (cs16 : Array Value), cs16.size = 2 ∧ CellsAt W.drew (⟨b2, 0, none⟩ : Addr) cs16.toList ∧
      (chk (decide (cs15.size = 24)) (
          Wr W.drew (⟨b1, 0, none⟩ : Addr) cs15.toList ∧ ∀ w21, w21 = W.drew.setCells (⟨b1, 0, none⟩ : Addr).block (⟨b1, 0, none⟩ : Addr).off cs15.toList →
          (chk (decide (cs16.size = 2)) (
              CellsAt w21 (⟨b2, 0, none⟩ : Addr) cs16.toList ∧
              (chk (decide (cs16.size = 2)) (
                  Wr w21 (⟨b2, 0, none⟩ : Addr) cs16.toList ∧ ∀ w22, w22 = w21.setCells (⟨b2, 0, none⟩ : Addr).block (⟨b2, 0, none⟩ : Addr).off cs16.toList →
                  (∃ (cs17 : Array Value), cs17.size = 24 ∧ CellsAt w22 (⟨b1, 0, none⟩ : Addr) cs17.toList ∧
                    (∃ (cs18 : Array Value), cs18.size = 2 ∧ CellsAt w22 (⟨b2, 0, none⟩ : Addr) cs18.toList ∧
                      N cs17 cs18 w22))))))))) := by
  obtain ⟨hx, l1, l2, _, ⟨ps, g1, g2⟩, g3⟩ := h.more (Ex.drew W)
  have hcl := g2.at.clen
  refine ⟨(stC c.1 ps).toArray, by rw [List.size_toArray]; exact hcl, g1.cells, (two c.2.1 c.2.2.1).toArray, rfl, g3.cells, chk_of (decide_eq_true (by rw [List.size_toArray]; exact hcl)) ?_⟩
  have t1 : ∀ i, i = b1 → Typed W.drew ty_api_State i := fun i hi => by rw [hi]; exact (g1.typed rfl).1
  refine g1.put (cs := stC c.1 ps) hcl g2.at.one fun w3 k3 o3 => ?_
  have g3' := g3.away k3 ty_api_State t1 (by decide)
  refine chk_of (by rfl) ⟨g3'.cells, chk_of (by rfl) ?_⟩
  have t2 : ∀ i, i = b2 → Typed w3 ty_api_Plat i := fun i hi => by rw [hi]; exact (g3'.typed rfl).1
  refine g3'.put (cs := two c.2.1 c.2.2.1) (by rfl) two_one fun w4 k4 o4 => ?_
  exact ⟨(stC c.1 ps).toArray, by rw [List.size_toArray]; exact hcl, (o3.away k4 ty_api_Plat t2 (by decide)).cells, (two c.2.1 c.2.2.1).toArray, rfl, o4.cells, K ps w4 ((hx.then k3 fun i hi => by omega).then k4 fun i hi => by omega) ((g2.away k3 ty_api_State t1 (by decide)).away k4 ty_api_Plat t2 (by decide))⟩
theorem Kept.first {w : World} {N : Nat → Nat → World → Prop} (K : ∀ b1 b2 W, w.heap.size ≤ b1 → Kept w b1 b2 acc0 W → N b1 b2 W) : newP w zst.toArray ty_api_State fun b1 w1 => newP w1 #[(Value.int .i64 0), (Value.int .i64 0)] ty_api_Plat fun b2 w2 => N b1 b2 w2 := by
  rintro b1 w1 rfl rfl b2 w2 rfl rfl
  rw [two_new]
  have o1 := (Owns.new (w := w) zst ty_api_State).lower (Nat.zero_le _)
  have x1 := Ex.alloc w (.cells zst.toArray ty_api_State)
  have hb1 : w.heap.size ≤ w.heap.size := Nat.le_refl _
  generalize hb1e : w.heap.size = b1 at o1 hb1 ⊢
  have hb1 : w.heap.size ≤ b1 := by omega
  generalize w.alloc (.cells zst.toArray ty_api_State) = w1 at o1 x1 ⊢
  have o2 := (Owns.new (w := w1) (two 0 0) ty_api_Plat).lower (Nat.zero_le _)
  have x2 := Ex.alloc w1 (.cells (two 0 0).toArray ty_api_Plat)
  have hb2 : w.heap.size ≤ w1.heap.size := x1.size
  generalize w1.heap.size = b2 at o2 hb2 ⊢
  generalize w1.alloc (.cells (two 0 0).toArray ty_api_Plat) = w2 at o2 x2 ⊢
  exact K b1 b2 w2 (by omega) ⟨x1.trans x2, hb1, hb2, trivial, ⟨_, o1.ex x2, StO.zero _⟩, o2⟩
theorem Load_spec {w : World} {B pd : Nat} {d : Bas.Dev} {D : Nat → Prop} (h : Live w B pd d D) : slate_Load.C (some ⟨pd, 0, none⟩) w (Ret (LoadS (accs d 2) w)) := by
  apply slate_Load.ok
  unfold slate_Load.main
  refine Kept.first (N := fun b1 b2 W => cond _ _ (slate_Load.l1 _ b1 b2 0 0 W _)) fun b1 b2 w2 _ hk => ?_
  rw [cond_neg (by rfl)]
  unfold slate_Load.l1
  refine ⟨LoadI w pd b1 b2 d, fun t0 t2 t3 t4 t17 W => (2 - t17).toNat, ⟨rfl, rfl, rfl, by omega, by omega, rfl, hk⟩, ?_⟩
  clear hk
  rintro _ _ _ _ t17 W ⟨rfl, rfl, rfl, i0, i1, rfl, hk⟩
  unfold slate_Load.b1
  obtain ⟨i, rfl⟩ := Int.eq_ofNat_of_zero_le i0
  rw [Int.toNat_natCast] at hk ⊢
  refine cond_of (fun hc => ?_) (fun hc => ?_)
  · have hc := of_decide_eq_true hc
    refine callP.use (area_spec (q := (i : Int)) ⟨by omega, by omega⟩ W) ?_
    rintro _ w5 ⟨rfl, e5⟩
    obtain rfl := e5.symm
    try dsimp only [dI_i64, dI_u8, dI_u16, dI_u32, dB_bool, dS_slice, dP_ptr, dT_tup, dA_agg, dStr_str, dF_f, dC_c, dM_m, optP_some, ga0, ga1, ga2, ga3, ga4, cond_true, cond_false, chk_true, Bool.not_true, Bool.not_false, Option.isNone_none, Option.isNone_some, List.toList_toArray]
    have e12 : (i : Int) % 2 * 12 = ((12 * i : Nat) : Int) := by omega
    rw [e12]
    refine callP.use (pages_spec (h.ex hk.ex) (at_ := 12 * i) (by omega)) ?_
    rintro _ w7 ⟨p, n, c, rfl, hp, hn, x7⟩
    try dsimp only [dI_i64, dI_u8, dI_u16, dI_u32, dB_bool, dS_slice, dP_ptr, dT_tup, dA_agg, dStr_str, dF_f, dC_c, dM_m, optP_some, ga0, ga1, ga2, ga3, ga4, cond_true, cond_false, chk_true, Bool.not_true, Bool.not_false, Option.isNone_none, Option.isNone_some, List.toList_toArray]
    rw [cond_neg (by rfl)]
    refine callP.use (both (pgL_bytes h.good _) (by omega) hp).1 ?_
    rintro _ w11 ⟨ps, rfl, hst, x11⟩
    try dsimp only [dI_i64, dI_u8, dI_u16, dI_u32, dB_bool, dS_slice, dP_ptr, dT_tup, dA_agg, dStr_str, dF_f, dC_c, dM_m, optP_some, ga0, ga1, ga2, ga3, ga4, cond_true, cond_false, chk_true, Bool.not_true, Bool.not_false, Option.isNone_none, Option.isNone_some, List.toList_toArray]
    refine Kept.step (hk.more (x7.trans x11)) hst rfl (N := fun t' W' => LoadI w pd b1 b2 d (some ⟨pd, 0, none⟩) b1 b2 t' (IntKind.i64.wrap ((i : Int) + 1)) W' ∧ (2 - IntKind.i64.wrap ((i : Int) + 1)).toNat < (2 - (i : Int)).toNat) fun W' t' ht hk' _ => ?_
    have hnext : IntKind.i64.wrap ((i : Int) + 1) = ((i + 1 : Nat) : Int) := by rw [w64 (by omega) (by omega)]; rfl
    rw [hnext]
    exact ⟨⟨rfl, rfl, rfl, by omega, by omega, ht, hk'⟩, by ((try dsimp only); omega)⟩
  · have hc := of_decide_eq_false hc
    obtain rfl : i = 2 := by omega
    unfold slate_Load.k1
    refine cond_of (fun h0 => ?_) (fun h0 => ?_)
    · have h0 : (accs d 2).2.2.2 = 0 := by simpa using h0
      refine hk.out (N := fun a b W => Ret (LoadS (accs d 2) w) (.returned (.tuple #[.agg a, .agg b, .int .i64 0, .int .i64 11])) W) fun ps w' x st => Ret.mk ⟨⟨ps, ?_, st⟩, x⟩
      rw [h0, if_pos rfl]
    · have h0 : ¬ (accs d 2).2.2.2 = 0 := by simpa using h0
      refine hk.out (N := fun a b W => Ret (LoadS (accs d 2) w) (.returned (.tuple #[.agg a, .agg b, .int .i64 (accs d 2).2.2.2, .int .i64 0])) W) fun ps w' x st => Ret.mk ⟨⟨ps, ?_, st⟩, x⟩
      rw [if_neg h0]
end Go.Proofs.Ythgmebhkbbehmaa.G.Sl
