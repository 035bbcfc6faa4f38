/-
  spool.Load: what it computes.
-/
import Derived.Test.YtnbegeghcjldfaaSpoolA
namespace Go.Proofs.Ytnbegeghcjldfaa.G
open Go.Dec Go.RowKit
set_option linter.unusedVariables false
set_option linter.unusedSimpArgs false

def loadP (seq : Int) (now : List (List Int)) : Nat → Nat → List Dl × Nat
  | 0, n => ([], n)
  | f + 1, n => match readP seq n (now.getD (24 + n) []) with
    | none => ([], n)
    | some l => (l ++ (loadP seq now f (n + 1)).1, (loadP seq now f (n + 1)).2)
theorem Load_spec {w : World} {B pd : Nat} {d : Bas.Dev} {D : Nat → Prop} (h : Bas.DevIs w B pd d D) (hg : Bas.Good d) (ho : d.off = false) (hl : d.now.length = 60) (seq : Int) (hs : 1 ≤ seq ∧ seq ≤ 1073741824) :
    spool_Load.C (some ⟨pd, 0, none⟩) seq w (Ret fun v w' => ∃ p c, v = .tuple #[.slice p (loadP seq d.now 16 0).1.length c, .int .i64 ((loadP seq d.now 16 0).2 : Int), .int .i64 0] ∧ Owns w' w.heap.size ty_api_Delta 5 p (loadP seq d.now 16 0).1.length c (dcells (loadP seq d.now 16 0).1) ∧ Ex w w') := by
  apply spool_Load.ok
  unfold spool_Load.main
  try dsimp only [dI_i64, dI_u8, dI_u16, dI_u32, dB_bool, dS_slice, dP_ptr, dT_tup, dA_agg, dStr_str, dF_f, dC_c, dM_m, optP_some, ga0, ga1, ga2, ga3, ga4, cond_true, cond_false, chk_true, Bool.not_true, Bool.not_false, Option.isNone_none, Option.isNone_some, List.toList_toArray]
  rw [condd_neg (show ¬ seq < 1 by omega), condd_neg (show ¬ seq > 1073741824 by omega)]
  unfold spool_Load.l1
  refine ⟨fun t0 t1 t7p t7n t7c t23 w' => t0 = some ⟨pd, 0, none⟩ ∧ seq = t1 ∧ 0 ≤ t23 ∧ t23 ≤ 16 ∧ Ex w w' ∧ ∃ acc : List Dl, acc.length = t7n ∧ t7n ≤ 6 * t23.toNat ∧ Owns w' w.heap.size ty_api_Delta 5 t7p t7n t7c (dcells acc) ∧
      loadP seq d.now 16 0 = (acc ++ (loadP seq d.now (16 - t23.toNat) t23.toNat).1, (loadP seq d.now (16 - t23.toNat) t23.toNat).2),
    fun t0 t1 t7p t7n t7c t23 w' => (16 - t23).toNat, ⟨rfl, rfl, by omega, by omega, Ex.refl w, [], rfl, by omega, Owns.nil _ _ _ _, rfl⟩, ?_⟩
  rintro _ _ t7p t7n t7c t23 w' ⟨rfl, rfl, h0, h1, hx, acc, hacc, hn6, own, heq⟩
  unfold spool_Load.b1
  obtain ⟨k, rfl⟩ := Int.eq_ofNat_of_zero_le h0
  rw [Int.toNat_natCast] at heq hn6
  refine cond_of (fun hk => ?_) (fun hk => ?_)
  · have hk := of_decide_eq_true hk
    have e24 : IntKind.i64.wrap (24 + (k : Int)) = ((24 + k : Nat) : Int) := by rw [w64 (by omega) (by omega)]; omega
    rw [e24]
    refine callP.use (Bas.Get_spec (h.ex hx) hg ((24 + k : Nat) : Int)) ?_
    rintro _ w1 ⟨x1, hres⟩
    have hgot : Bas.got d ((24 + k : Nat) : Int) = 0 := by
      unfold Bas.got
      rw [ho, if_neg (by simp), if_neg (by rw [hl]; omega)]
    rcases hres with ⟨hne, _⟩ | ⟨_, p1, c1, s, hsec, rfl, o1⟩
    · exact (hne hgot).elim
    rw [Int.toNat_natCast] at hsec
    try dsimp only [dI_i64, dI_u8, dI_u16, dI_u32, dB_bool, dS_slice, dP_ptr, dT_tup, dA_agg, dStr_str, dF_f, dC_c, dM_m, optP_some, ga0, ga1, ga2, ga3, ga4, cond_true, cond_false, chk_true, Bool.not_true, Bool.not_false, Option.isNone_none, Option.isNone_some, List.toList_toArray]
    rw [cond_neg (by rfl)]
    have hS : Bas.Sec s := hg.now s (List.mem_of_getElem? hsec)
    have hgd : d.now.getD (24 + k) [] = s := by rw [List.getD_eq_getElem?_getD, hsec]; rfl
    refine callP.use (read_spec p1 c1 s seq (k : Int) w1 o1.cells hS.1 o1.2.1 hS.2 ⟨by omega, by omega⟩) ?_
    rintro _ w3 ⟨x3, q, m, e, rfl, hres⟩
    try dsimp only [dI_i64, dI_u8, dI_u16, dI_u32, dB_bool, dS_slice, dP_ptr, dT_tup, dA_agg, dStr_str, dF_f, dC_c, dM_m, optP_some, ga0, ga1, ga2, ga3, ga4, cond_true, cond_false, chk_true, Bool.not_true, Bool.not_false, Option.isNone_none, Option.isNone_some, List.toList_toArray]
    have hf : 16 - k = (16 - (k + 1)) + 1 := by omega
    have hstep : loadP seq d.now (16 - k) k = match readP seq k s with
      | none => ([], k)
      | some l => (l ++ (loadP seq d.now (16 - (k + 1)) (k + 1)).1, (loadP seq d.now (16 - (k + 1)) (k + 1)).2) := by rw [hf, loadP, hgd]
    rw [hstep] at heq
    cases hr : readP seq k s with
    | none =>
      rw [hr] at heq
      rw [cond_pos (by rfl)]
      dsimp only at heq
      rw [List.append_nil] at heq
      refine Ret.mk ⟨t7p, t7c, ?_, ?_, hx.trans (x1.trans x3)⟩
      · rw [heq]; dsimp only; rw [hacc]
      · rw [heq]; dsimp only; rw [hacc]; exact own.ex (x1.trans x3)
    | some l =>
      rw [hr] at heq
      dsimp only at heq
      obtain ⟨hlm, hm6, ol⟩ := hres l hr
      rw [cond_neg (by rfl)]
      have x13 := x1.trans x3
      refine appP_own (B := w.heap.size) (own.ex x13) (hx.trans x13).size (dcells l) ol.cells (by rw [dcells_len, hlm]) (dcells_one l) rfl (by omega) (by omega) ?_
      intro p9 c9 w9 o9 k9
      have x9 : Ex w w9 := (hx.trans x13).then k9 fun i ⟨x, e, hi⟩ => by
        have := (own.ge e).1
        omega
      have en : IntKind.i64.wrap ((k : Int) + 1) = ((k + 1 : Nat) : Int) := by rw [w64 (by omega) (by omega)]; rfl
      rw [en]
      have tn : ((k + 1 : Nat) : Int).toNat = k + 1 := rfl
      refine ⟨⟨rfl, rfl, by omega, by omega, x9, acc ++ l, by rw [List.length_append, hacc, hlm], by rw [tn]; omega, by rw [dcells_app]; exact o9, ?_⟩, by ((try dsimp only); omega)⟩
      rw [tn, heq, List.append_assoc]
  · have hk := of_decide_eq_false hk
    obtain rfl : k = 16 := by omega
    have heq : loadP seq d.now 16 0 = (acc, 16) := by rw [heq]; simp [loadP]
    refine Ret.mk ⟨t7p, t7c, ?_, ?_, hx⟩
    · rw [heq]; dsimp only; rw [hacc]; rfl
    · rw [heq]; dsimp only; rw [hacc]; exact own
end Go.Proofs.Ytnbegeghcjldfaa.G
