/-
  The document's Decode of any pages: what it reads of them; words for its walk.
-/
import Derived.Test.YthgmebhkbbehmaaLeafW
namespace Go.Proofs.Ythgmebhkbbehmaa.G.En
open Go.Dec Go.RowKit
set_option linter.unusedVariables false
set_option linter.unusedSimpArgs false

def part2 (pg : List Int) : List Int := if said pg ≤ 52 then partOf pg else []
def txt2 (pgs : List (List Int)) : List Int := pgs.tail.flatMap part2
def s2 (pgs : List (List Int)) : Int := Cel.getN (hd0 pgs) 8 1
def k2 (pgs : List (List Int)) : Int := Cel.getN (hd0 pgs) 9 1
def q2 (pgs : List (List Int)) : Int := Cel.getN (hd0 pgs) 4 4
def st2 (pgs : List (List Int)) : Sta := (rdR (k2 pgs) (txt2 pgs) 8).1
structure Good2 (pgs : List (List Int)) : Prop where
  n2 : 2 ≤ pgs.length
  n12 : pgs.length ≤ 12
  opens : ∀ pg ∈ pgs, opnE pg = 0
  seq : okSeq (q2 pgs)
  fit : FitR (s2 pgs) (k2 pgs) (st2 pgs)
  same : laidAs (s2 pgs) (k2 pgs) (q2 pgs) (pay (k2 pgs) (st2 pgs)) = pgs
def DecRes2 (pgs : List (List Int)) (w : World) (v : Value) (w' : World) : Prop :=
  Ex w w' ∧ ((Good2 pgs ∧ ∃ ps, v = .tuple #[.agg (stC (st2 pgs) ps).toArray, .agg (two (s2 pgs) (k2 pgs)).toArray, .int .i64 (q2 pgs), .int .i64 0] ∧ StO w' (st2 pgs) ps) ∨ (¬ Good2 pgs ∧ v = none4))
theorem bad_ref {pgs : List (List Int)} {w W : World} {b1 b2 b3 : Nat} (hx : Ex w W) (h1 : w.heap.size ≤ b1) (h2 : w.heap.size ≤ b2) (o1 : Owns W 0 ty_api_State 24 (some ⟨b1, 0, none⟩) 1 1 zst) (o2 : Owns W 0 ty_api_Plat 2 (some ⟨b2, 0, none⟩) 1 1 (two 0 0)) (o3 : Owns W 0 ty_api_State 24 (some ⟨b3, 0, none⟩) 1 1 zst) (hn : ¬ Good2 pgs) :
    ∃ (cs1 : Array Value), cs1.size = 24 ∧ CellsAt W (⟨b3, 0, none⟩ : Addr) cs1.toList ∧
      (chk (decide (cs1.size = 24)) (
          Wr W (⟨b1, 0, none⟩ : Addr) cs1.toList ∧ ∀ w5, w5 = W.setCells (⟨b1, 0, none⟩ : Addr).block (⟨b1, 0, none⟩ : Addr).off cs1.toList →
          (Wr w5 (⟨b2, 0, none⟩ : Addr) [(Value.int .i64 0), (Value.int .i64 0)] ∧ ∀ w6, w6 = w5.setCells (⟨b2, 0, none⟩ : Addr).block (⟨b2, 0, none⟩ : Addr).off [(Value.int .i64 0), (Value.int .i64 0)] →
            (∃ (cs2 : Array Value), cs2.size = 24 ∧ CellsAt w6 (⟨b1, 0, none⟩ : Addr) cs2.toList ∧
              (∃ (cs3 : Array Value), cs3.size = 2 ∧ CellsAt w6 (⟨b2, 0, none⟩ : Addr) cs3.toList ∧
                (Ret (DecRes2 pgs w) (.returned (Value.tuple #[(Value.agg cs2), (Value.agg cs3), (Value.int .i64 0), (Value.int .i64 11)])) w6)))))) := by
  refine ⟨zst.toArray, rfl, o3.cells, chk_of (by rfl) ?_⟩
  have t1 : ∀ i, i = b1 → Typed W ty_api_State i := fun i hi => by rw [hi]; exact (o1.typed rfl).1
  refine o1.put (cs := zst) (by rfl) zst_one fun w3 k3 o3 => ?_
  have o2' := o2.away k3 ty_api_State t1 (by decide)
  have t2 : ∀ i, i = b2 → Typed w3 ty_api_Plat i := fun i hi => by rw [hi]; exact (o2'.typed rfl).1
  refine o2'.put (cs := two 0 0) (by rfl) two_one fun w4 k4 o4 => ?_
  refine ⟨zst.toArray, rfl, (o3.away k4 ty_api_Plat t2 (by decide)).cells, (two 0 0).toArray, rfl, o4.cells, Ret.mk ⟨(hx.then k3 fun i hi => by omega).then k4 fun i hi => by omega, .inr ⟨hn, rfl⟩⟩⟩
theorem rd_short {k : Int} {t : List Int} {i : Nat} (h : (rdR k t i).2.length < 2) : ∀ m, rdR k t (i + m) = ((rdR k t i).1 ++ List.replicate m ze, (rdR k t i).2)
  | 0 => by simp
  | m + 1 => by
    show ((rdR k t (i + m)).1 ++ [(rdE k (rdR k t (i + m)).2).1], (rdE k (rdR k t (i + m)).2).2) = _
    rw [rd_short h m]
    have e : rdE k (rdR k t i).2 = (ze, (rdR k t i).2) := by
      match (rdR k t i).2, h with
      | [], _ => rfl
      | [a], _ => rfl
      | a :: b :: r, h => simp only [List.length_cons] at h; omega
    dsimp only
    rw [e, List.replicate_succ', List.append_assoc]
theorem rd_fl {k : Int} {t : List Int} {i : Nat} (hi : i ≤ 8) (h : i = 8 ∨ (rdR k t i).2.length < 2) : (rdR k t 8).1 = fl (rdR k t i).1 := by
  have hl := rdR_len k t i
  rcases h with rfl | h
  · exact (fl_full hl).symm
  · have := rd_short h (8 - i)
    rw [show i + (8 - i) = 8 by omega] at this
    rw [this]
    unfold fl
    rw [hl]
/-- the text is followed from a place on -/
theorem rdE_at {k : Int} {a b : Int} {r : List Int} {m : Nat} (hm : min b.toNat (r.length / 2) = m) : rdE k (a :: b :: r) = ((a, b, (Cel.unL 2 m r).map (pl2 k)), r.drop (2 * m)) := by
  subst hm
  rfl
theorem getN_at {t : List Int} {at_ : Nat} (h : at_ + 2 ≤ t.length) : Cel.getN t (at_ : Int) 2 = Cel.num ((t.drop at_).take 2) := by
  rw [(Cel.get_in (by omega) (by omega) (n := t.length) rfl (by omega) (by omega)).1, Int.toNat_natCast]
  rfl
theorem refPlace_spec {n k : Int} (hn : 1 ≤ n ∧ n < 65536) (hk : 0 ≤ k ∧ k < 256) (w : World) : stopcockref01_Place.C (n - 1) k w (Ret fun v w' => ∃ e, v = .tuple #[.complex .f64 (plR (pl2 k n)) (plM (pl2 k n)), .int .i64 e] ∧ Ex w w') := by
  apply stopcockref01_Place.ok
  unfold stopcockref01_Place.main
  have hbad : ¬(1 ≤ k ∧ k ≤ 16 ∧ n - 1 < 24 * k) → plR (pl2 k n) = 0 ∧ plM (pl2 k n) = 0 := fun h => by
    unfold pl2
    rw [if_neg (by omega), if_neg h]
    exact ⟨nr_zero, nr_zero⟩
  have fail : ∀ {e : Int}, ¬(1 ≤ k ∧ k ≤ 16 ∧ n - 1 < 24 * k) → Ret (fun v w' => ∃ e, v = .tuple #[.complex .f64 (plR (pl2 k n)) (plM (pl2 k n)), .int .i64 e] ∧ Ex w w') (.returned (.tuple #[.complex .f64 0 0, .int .i64 e])) w := fun h => by
    obtain ⟨h1, h2⟩ := hbad h
    exact Ret.mk ⟨_, by rw [h1, h2], Ex.refl _⟩
  refine cond_of (fun hc => ?_) (fun hc => ?_)
  · have hc := of_decide_eq_true hc
    exact fail (e := 1) (fun h => by omega)
  have hc1 := of_decide_eq_false hc
  refine cond_of (fun hc => ?_) (fun hc => ?_)
  · have hc := of_decide_eq_true hc
    exact fail (e := 1) (fun h => by omega)
  have hc2 := of_decide_eq_false hc
  rw [condd_neg (by omega), w64 (x := 24 * k) (by omega) (by omega)]
  refine cond_of (fun h2 => ?_) (fun h2 => ?_)
  · have h2 := of_decide_eq_true h2
    exact fail (e := 5) (fun h => by omega)
  have h2 := of_decide_eq_false h2
  have hin : 1 ≤ k ∧ k ≤ 16 ∧ n - 1 < 24 * k := ⟨by omega, by omega, by omega⟩
  refine chk_of (decide_eq_true (by omega)) (chk_of (decide_eq_true (by omega)) ?_)
  have e1 : Int.tdiv (n - 1) k = (((n - 1) / k).toNat : Int) := by
    rw [Int.tdiv_eq_ediv_of_nonneg (by omega)]
    have := Int.ediv_nonneg (a := n - 1) (b := k) (by omega) (by omega)
    omega
  have e2 : Int.tmod (n - 1) k = (((n - 1) % k).toNat : Int) := by
    rw [Int.tmod_eq_emod_of_nonneg (by omega)]
    have := Int.emod_nonneg (n - 1) (show k ≠ 0 by omega)
    omega
  have hlt : (n - 1) / k < 24 := Int.ediv_lt_of_lt_mul (by omega) hin.2.2
  rw [e1, e2, w64 (by omega) (by omega)]
  have ep : pl2 k n = some (((n - 1) / k).toNat, ((n - 1) % k).toNat) := by
    unfold pl2
    rw [if_neg (by omega), if_pos hin]
  refine callP.use (Make_spec _ _ w.drew) ?_
  rintro _ w1 ⟨rfl, e3⟩
  subst e3
  try dsimp only [dI_i64, dI_u8, dI_u16, dI_u32, dB_bool, dS_slice, dP_ptr, dT_tup, dA_agg, dStr_str, dF_f, dC_c, dM_m, optP_some, ga0, ga1, ga2, ga3, ga4, cond_true, cond_false, chk_true, Bool.not_true, Bool.not_false, Option.isNone_none, Option.isNone_some, List.toList_toArray]
  exact Ret.mk ⟨0, by rw [ep]; rfl, Ex.drew w⟩
theorem laid_bytes {s k q : Int} {R : Sta} (hq : okSeq q) (hF : FitR s k R) (ho : ∀ e ∈ R, okEnt e) (h8 : R.length = 8) : ∀ pg ∈ laidAs s k q (pay k R), Bytes pg := by
  have hh := may_iff.1 hF.1.1
  have hple := pay_le h8 hF.1.2.1 k
  have hpb := pay_bytes (k := k) ho
  generalize pay k R = t at hple hpb ⊢
  have hc11 : cnt t.length ≤ 11 := by unfold cnt; omega
  have hok : (hdOf s k q t).Ok := ⟨⟨by have := hq.1; show 0 ≤ q; omega, by have := hq.2; show q < _; omega⟩, ⟨by show 0 ≤ s; omega, by show s < _; omega⟩, ⟨by show 0 ≤ k; omega, by show k < _; omega⟩, by show cnt t.length < 256; omega, by show t.length < _; omega⟩
  intro pg hpg
  unfold laidAs at hpg
  rcases List.mem_cons.1 hpg with rfl | hpg
  · exact seal_bytes (hdT_bytes hok t)
  · unfold lv at hpg
    obtain ⟨i, hi, rfl⟩ := List.mem_mapIdx.1 hpg
    rw [List.length_range] at hi
    have hcl := chunk_len t (List.range (cnt t.length))[i]
    have hc52 : clen t.length (List.range (cnt t.length))[i] ≤ 52 := by unfold clen; omega
    refine seal_bytes (Bytes.append (Bytes.append (Cel.be_byte 4 q) fun x hx => ?_) ((hpb.drop _).take _))
    simp only [List.mem_cons, List.not_mem_nil, or_false] at hx
    omega
end Go.Proofs.Ythgmebhkbbehmaa.G.En
namespace Go.Proofs.Ythgmebhkbbehmaa.G.En
open Go.Dec Go.RowKit
set_option linter.unusedVariables false
set_option linter.unusedSimpArgs false

/-- what the walk keeps beside the state: the pages, the answers' cells, the geometry -/
structure Side (pgs : List (List Int)) (w : World) (a : Addr) (n c b1 b2 b3 b11 : Nat) (W : World) : Prop where
  ex : Ex w W
  pin0 : PIn w (some a) n c pgs
  low1 : w.heap.size ≤ b1
  low2 : w.heap.size ≤ b2
  o1 : Owns W 0 ty_api_State 24 (some ⟨b1, 0, none⟩) 1 1 zst
  o2 : Owns W 0 ty_api_Plat 2 (some ⟨b2, 0, none⟩) 1 1 (two 0 0)
  o3 : Owns W 0 ty_api_State 24 (some ⟨b3, 0, none⟩) 1 1 zst
  o11 : Owns W 0 ty_api_Plat 2 (some ⟨b11, 0, none⟩) 1 1 (two (s2 pgs) (k2 pgs))
theorem Side.more {pgs : List (List Int)} {w : World} {a : Addr} {n c b1 b2 b3 b11 : Nat} {W W' : World} (h : Side pgs w a n c b1 b2 b3 b11 W) (x : Ex W W') : Side pgs w a n c b1 b2 b3 b11 W' :=
  ⟨h.ex.trans x, h.pin0, h.low1, h.low2, h.o1.ex x, h.o2.ex x, h.o3.ex x, h.o11.ex x⟩
theorem Side.pin {pgs : List (List Int)} {w : World} {a : Addr} {n c b1 b2 b3 b11 : Nat} {W : World} (h : Side pgs w a n c b1 b2 b3 b11 W) : PIn W (some a) n c pgs := h.pin0.ex h.ex
theorem Side.kp {pgs : List (List Int)} {w : World} {a : Addr} {n c b1 b2 b3 b11 b12 : Nat} {W W' : World} (h : Side pgs w a n c b1 b2 b3 b11 W) {S : Nat → Prop} (k : Kp W W' S) (hS : ∀ i, S i → i = b12 ∨ W.heap.size ≤ i) (h12 : w.heap.size ≤ b12) (t : Typed W ty_api_State b12) (n1 : b1 ≠ b12) (n3 : b3 ≠ b12) : Side pgs w a n c b1 b2 b3 b11 W' := by
  have l1 := (h.o1.typed rfl)
  have l2 := (h.o2.typed rfl)
  have l3 := (h.o3.typed rfl)
  have l11 := (h.o11.typed rfl)
  have hw := h.ex.size
  have off : ∀ b, b < W.heap.size → b ≠ b12 → ¬ S b := fun b hb hn hs => by rcases hS b hs with h | h; exact hn h; omega
  refine ⟨h.ex.then k fun i hi => ?_, h.pin0, h.low1, h.low2, h.o1.kp k fun x hx => ?_, h.o2.kp k fun x hx => ?_, h.o3.kp k fun x hx => ?_, h.o11.kp k fun x hx => ?_⟩
  · rcases hS i hi with h | h <;> omega
  · cases hx; exact off _ l1.2.2 n1
  · cases hx; exact off _ l2.2.2 (fun e => by dsimp only at e; subst e; exact l2.1.ne t (by decide) rfl)
  · cases hx; exact off _ l3.2.2 n3
  · cases hx; exact off _ l11.2.2 (fun e => by dsimp only at e; subst e; exact l11.1.ne t (by decide) rfl)
theorem k5_all {pgs : List (List Int)} {w : World} {a : Addr} {n c b1 b2 b3 b11 b12 : Nat} {W : World} {ps : List Value} (hb : ∀ pg ∈ pgs, Bytes pg) (sd : Side pgs w a n c b1 b2 b3 b11 W) (h2 : 2 ≤ n) (h12 : n ≤ 12) (hop : ∀ pg ∈ pgs, opnE pg = 0)
    (o12 : Owns W 0 ty_api_State 24 (some ⟨b12, 0, none⟩) 1 1 (stC (st2 pgs) ps)) (hst : StO W (st2 pgs) ps) :
    stopcockref13_Decode.k5 (some a) n c b1 b2 b3 b11 b12 W (Ret (DecRes2 pgs w)) := by
  have hlen := sd.pin.len
  unfold stopcockref13_Decode.k5
  refine chk_of (decide_eq_true (by omega)) ?_
  obtain ⟨a', pg0, q0, d0, ea, hg0, r0, hd0l, hcp0⟩ := sd.pin.get (i := 0) (by omega)
  cases ea
  have hH : hd0 pgs = pg0 := by
    unfold hd0
    rw [List.headD_eq_head?_getD, List.head?_eq_getElem?, hg0]
    rfl
  have hbp0 := hb pg0 (List.mem_of_getElem? hg0)
  have h64 := (open_ok (hop pg0 (List.mem_of_getElem? hg0))).1
  try dsimp only [dI_i64, dI_u8, dI_u16, dI_u32, dB_bool, dS_slice, dP_ptr, dT_tup, dA_agg, dStr_str, dF_f, dC_c, dM_m, optP_some, ga0, ga1, ga2, ga3, ga4, cond_true, cond_false, chk_true, Bool.not_true, Bool.not_false, Option.isNone_none, Option.isNone_some, List.toList_toArray]
  rw [show a.add 0 = a from Addr.add_zero' a] at r0
  refine ⟨q0, pg0.length, d0, r0, ?_⟩
  refine callP.use (number_spec hcp0 rfl (by omega) hbp0 4 4 (by omega)) ?_
  rintro _ w41 ⟨rfl, x41⟩
  try dsimp only [dI_i64, dI_u8, dI_u16, dI_u32, dB_bool, dS_slice, dP_ptr, dT_tup, dA_agg, dStr_str, dF_f, dC_c, dM_m, optP_some, ga0, ga1, ga2, ga3, ga4, cond_true, cond_false, chk_true, Bool.not_true, Bool.not_false, Option.isNone_none, Option.isNone_some, List.toList_toArray]
  have eq2 : Cel.getN pg0 4 4 = q2 pgs := by unfold q2; rw [hH]
  rw [eq2]
  have sd := sd.more x41
  have o12 := o12.ex x41
  have hst := hst.ex x41
  have hcl := hst.at.clen
  refine ⟨(stC (st2 pgs) ps).toArray, by rw [List.size_toArray]; exact hcl, o12.cells, (two (s2 pgs) (k2 pgs)).toArray, rfl, sd.o11.cells, ?_⟩
  refine callP.use (refEncode_all hst.at (s2 pgs) (k2 pgs) (q2 pgs)) ?_
  rintro _ w43 ⟨x43, hres⟩
  have sd := sd.more x43
  have o12 := o12.ex x43
  have hst := hst.ex x43
  have bad : ∀ {W' : World}, Ex w43 W' → ¬ Good2 pgs → _ := fun {W'} x hn => bad_ref (pgs := pgs) (sd.ex.trans x) sd.low1 sd.low2 (sd.o1.ex x) (sd.o2.ex x) (sd.o3.ex x) hn
  rcases hres with ⟨hqs, hF, p5, n5, c5, ps5, rfl, o30, hpg⟩ | ⟨hno, e, he, rfl⟩
  · try dsimp only [dI_i64, dI_u8, dI_u16, dI_u32, dB_bool, dS_slice, dP_ptr, dT_tup, dA_agg, dStr_str, dF_f, dC_c, dM_m, optP_some, ga0, ga1, ga2, ga3, ga4, cond_true, cond_false, chk_true, Bool.not_true, Bool.not_false, Option.isNone_none, Option.isNone_some, List.toList_toArray]
    rw [cond_neg (by rfl)]
    have hpin := hpg.pin o30
    have hlb := laid_bytes hqs hF hst.ok hst.len
    generalize hL : laidAs (s2 pgs) (k2 pgs) (q2 pgs) (pay (k2 pgs) (st2 pgs)) = L at hpin hlb
    have hL5 := hpin.len
    refine cond_of (fun hc => ?_) (fun hc => ?_)
    · have hc : ¬ (n5 : Int) = n := by simpa using hc
      exact bad (Ex.refl _) (fun g => by have := g.same; rw [hL] at this; subst this; omega)
    have hc : (n5 : Int) = n := by simpa using hc
    obtain rfl : n5 = n := by omega
    unfold stopcockref13_Decode.l4
    refine ⟨fun t0p t0n t0c t2 t3 t6 t11 t12 t18 t19p t19n t19c t21 W' => some a = t0p ∧ n5 = t0n ∧ c = t0c ∧ b1 = t2 ∧ b2 = t3 ∧ b3 = t6 ∧ b11 = t11 ∧ b12 = t12 ∧ q2 pgs = t18 ∧ p5 = t19p ∧ n5 = t19n ∧ c5 = t19c ∧ 0 ≤ t21 ∧ t21 ≤ n5 ∧ L.take t21.toNat = pgs.take t21.toNat ∧ Ex w43 W', fun t0p t0n t0c t2 t3 t6 t11 t12 t18 t19p t19n t19c t21 W' => (n5 - t21).toNat, ⟨rfl, rfl, rfl, rfl, rfl, rfl, rfl, rfl, rfl, rfl, rfl, rfl, by omega, by omega, rfl, Ex.refl _⟩, ?_⟩
    rintro _ _ _ _ _ _ _ _ _ _ _ _ t21 W' ⟨rfl, rfl, rfl, rfl, rfl, rfl, rfl, rfl, rfl, rfl, rfl, rfl, i0, i1, he, hx⟩
    unfold stopcockref13_Decode.b4
    obtain ⟨j, rfl⟩ := Int.eq_ofNat_of_zero_le i0
    rw [Int.toNat_natCast] at he
    refine cond_of (fun hc => ?_) (fun hc => ?_)
    · have hc := of_decide_eq_true hc
      have hj : j < n5 := by omega
      obtain ⟨aa, pa, qa, da, rfl, ga, ra, la, ca⟩ := (hpin.ex hx).get hj
      obtain ⟨ab, pb, qb, db, eb, gb, rb, lb, cb⟩ := (sd.pin.ex hx).get hj
      cases eb
      refine chk_of (decide_eq_true i0) (chk_of (decide_eq_true hc) ?_)
      try dsimp only [dI_i64, dI_u8, dI_u16, dI_u32, dB_bool, dS_slice, dP_ptr, dT_tup, dA_agg, dStr_str, dF_f, dC_c, dM_m, optP_some, ga0, ga1, ga2, ga3, ga4, cond_true, cond_false, chk_true, Bool.not_true, Bool.not_false, Option.isNone_none, Option.isNone_some, List.toList_toArray]
      rw [Int.toNat_natCast, Nat.mul_one]
      refine ⟨qa, _, da, ra, pa, rfl, ca, chk_of (decide_eq_true i0) (chk_of (decide_eq_true hc) ?_)⟩
      try dsimp only [dI_i64, dI_u8, dI_u16, dI_u32, dB_bool, dS_slice, dP_ptr, dT_tup, dA_agg, dStr_str, dF_f, dC_c, dM_m, optP_some, ga0, ga1, ga2, ga3, ga4, cond_true, cond_false, chk_true, Bool.not_true, Bool.not_false, Option.isNone_none, Option.isNone_some, List.toList_toArray]
      refine ⟨qb, _, db, rb, pb, rfl, cb, fun k1 => ?_⟩
      rw [strOf_eq (hlb pa (List.mem_of_getElem? ga)) (hb pb (List.mem_of_getElem? gb))]
      refine cond_of (fun hne => ?_) (fun hne => ?_)
      · have hne : ¬ pa = pb := by simpa using hne
        refine bad (hx.trans (Ex.drewN _ _)) (fun g => ?_)
        have hs := g.same
        rw [hL] at hs
        rw [hs, gb] at ga
        exact hne (Option.some.inj ga).symm
      · have hne : pa = pb := by simpa using hne
        rw [w64 (by omega) (by omega)]
        refine ⟨⟨rfl, rfl, rfl, rfl, rfl, rfl, rfl, rfl, rfl, rfl, rfl, rfl, by omega, by omega, ?_, hx.trans (Ex.drewN _ _)⟩, by ((try dsimp only); omega)⟩
        have : ((j : Int) + 1).toNat = j + 1 := by omega
        rw [this, List.take_add_one, List.take_add_one, he, ga, gb, hne]
    · have hc := of_decide_eq_false hc
      obtain rfl : j = n5 := by omega
      have hsame := take_eq_all hL5 hlen he
      have hgood : Good2 pgs := ⟨by omega, by omega, hop, hqs, hF, by rw [hL]; exact hsame⟩
      unfold stopcockref13_Decode.k6
      have xd := hx.trans (Ex.drew W')
      have sd := sd.more xd
      have o12 := o12.ex xd
      have hst := hst.ex xd
      refine ⟨(stC (st2 pgs) ps).toArray, by rw [List.size_toArray]; exact hcl, o12.cells, (two (s2 pgs) (k2 pgs)).toArray, rfl, sd.o11.cells, chk_of (decide_eq_true (by rw [List.size_toArray]; exact hcl)) ?_⟩
      have t1 : ∀ i, i = b1 → Typed W'.drew ty_api_State i := fun i hi => by rw [hi]; exact (sd.o1.typed rfl).1
      refine sd.o1.put (cs := stC (st2 pgs) ps) hcl hst.at.one fun w38 k38 o38 => ?_
      have o11 := sd.o11.away k38 ty_api_State t1 (by decide)
      have o2 := sd.o2.away k38 ty_api_State t1 (by decide)
      refine chk_of (by rfl) ⟨o11.cells, chk_of (by rfl) ?_⟩
      have t2 : ∀ i, i = b2 → Typed w38 ty_api_Plat i := fun i hi => by rw [hi]; exact (o2.typed rfl).1
      refine o2.put (cs := two (s2 pgs) (k2 pgs)) (by rfl) two_one fun w39 k39 o39 => ?_
      have l1 := sd.low1
      have l2 := sd.low2
      refine ⟨(stC (st2 pgs) ps).toArray, by rw [List.size_toArray]; exact hcl, (o38.away k39 ty_api_Plat t2 (by decide)).cells, (two (s2 pgs) (k2 pgs)).toArray, rfl, o39.cells, Ret.mk ⟨(sd.ex.then k38 fun i hi => by omega).then k39 fun i hi => by omega, .inl ⟨hgood, ps, rfl, ?_⟩⟩⟩
      exact (hst.away k38 ty_api_State t1 (by decide)).away k39 ty_api_Plat t2 (by decide)
  · try dsimp only [dI_i64, dI_u8, dI_u16, dI_u32, dB_bool, dS_slice, dP_ptr, dT_tup, dA_agg, dStr_str, dF_f, dC_c, dM_m, optP_some, ga0, ga1, ga2, ga3, ga4, cond_true, cond_false, chk_true, Bool.not_true, Bool.not_false, Option.isNone_none, Option.isNone_some, List.toList_toArray]
    have : (e != 0) = true := by simpa using he
    rw [cond_pos this]
    exact bad (Ex.refl _) (fun g => hno ⟨g.seq, g.fit⟩)
end Go.Proofs.Ythgmebhkbbehmaa.G.En
