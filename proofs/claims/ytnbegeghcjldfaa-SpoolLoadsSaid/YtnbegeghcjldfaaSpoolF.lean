/-
  The law SpoolLoads: the walk.
-/
import Derived.Test.YtnbegeghcjldfaaSpoolE
import Derived.Test.YtnbegeghcjldfaaDecS
namespace Go.Proofs.Ytnbegeghcjldfaa.G
open Go.Dec Go.RowKit
set_option linter.unusedVariables false
set_option linter.unusedSimpArgs false

structure Bt where
  p : Option Addr
  n : Nat
  c : Nat
  xs : List Int
def Bt.cells (b : Bt) : List Value := [.slice b.p b.n b.c]
theorem bytes_of {w : World} {m : Nat → Nat → Prop} : ∀ {rows : List (List Value)}, (∀ r ∈ rows, LineIs w m (.sl 1 (.int .u8 .done) .done) r) → ∃ bs : List Bt, rows = bs.map Bt.cells ∧ ∀ b ∈ bs, CellsO w b.p (v8 b.xs) ∧ b.xs.length = b.n ∧ Bytes b.xs ∧ b.n ≤ b.c
  | [], _ => ⟨[], rfl, fun x hx => by cases hx⟩
  | r :: rows, h => by
    obtain ⟨a, len, cap, rs, t2, rfl, hs, ht⟩ := h r (by simp)
    have : t2 = [] := ht
    subst this
    obtain ⟨xs, hi, _, _⟩ := hs.ints
    obtain ⟨bs, rfl, hw⟩ := bytes_of (rows := rows) fun x hx => h x (List.mem_cons_of_mem _ hx)
    refine ⟨⟨a, len, cap, xs⟩ :: bs, rfl, fun x hx => ?_⟩
    rcases List.mem_cons.1 hx with rfl | hx
    · refine ⟨hi.cells, hi.size, fun b hb => ?_, hi.room⟩
      exact wf_u8' (hi.wf b hb)
    · exact hw x hx
theorem Load_bad {pd : Nat} (seq : Int) (w : World) (hs : ¬ (1 ≤ seq ∧ seq ≤ 1073741824)) : spool_Load.C (some ⟨pd, 0, none⟩) seq w (Ret fun v w' => v = .tuple #[.slice none 0 0, .int .i64 0, .int .i64 1] ∧ Ex w w') := by
  apply spool_Load.ok
  unfold spool_Load.main
  try dsimp only [dI_i64, dI_u8, dI_u16, dI_u32, dB_bool, dS_slice, dP_ptr, dT_tup, dA_agg, dStr_str, dF_f, dC_c, dM_m, optP_some, ga0, ga1, ga2, ga3, ga4, cond_true, cond_false, chk_true, Bool.not_true, Bool.not_false, Option.isNone_none, Option.isNone_some, List.toList_toArray]
  refine cond_of (fun h => Ret.mk ⟨rfl, Ex.refl w⟩) (fun h => ?_)
  have h := of_decide_eq_false h
  rw [condd_pos (by omega)]
  exact Ret.mk ⟨rfl, Ex.refl w⟩
/-- a plain device of sixty sectors -/
structure Plain (w : World) (B pd : Nat) (d : Bas.Dev) (D : Nat → Prop) (k : Nat) : Prop where
  dev : Bas.DevIs w B pd d D
  good : Bas.Good d
  off : d.off = false
  after : d.after = -1
  len : d.now.length = 60
  few : d.loose.length ≤ k
theorem loads_k1 {w0 w : World} {B pd k : Nat} {d : Bas.Dev} {D : Nat → Prop} (h : Plain w B pd d D k) (hx0 : Ex w0 w) (seq : Int) (hs : -9223372036854775808 ≤ seq ∧ seq ≤ 9223372036854775807) :
    stopcocklaw15_SpoolLoads.k1 seq (some ⟨pd, 0, none⟩) w (Ret fun v w' => v = .bool true ∧ Ex w0 w') := by
  obtain ⟨hd, hg, hoff, haft, hlen, _⟩ := h
  unfold stopcocklaw15_SpoolLoads.k1
  by_cases hq : 1 ≤ seq ∧ seq ≤ 1073741824
  · refine callP.use (Load_spec hd hg hoff hlen seq hq) ?_
    rintro _ w8 ⟨p, c, rfl, o8, x8⟩
    try dsimp only [dI_i64, dI_u8, dI_u16, dI_u32, dB_bool, dS_slice, dP_ptr, dT_tup, dA_agg, dStr_str, dF_f, dC_c, dM_m, optP_some, ga0, ga1, ga2, ga3, ga4, cond_true, cond_false, chk_true, Bool.not_true, Bool.not_false, Option.isNone_none, Option.isNone_some, List.toList_toArray]
    rw [condd_neg (by omega), decide_eq_false (show ¬ seq > 1073741824 by omega)]
    unfold stopcocklaw15_SpoolLoads.k2
    rw [cond_neg (by rfl)]
    rintro b3 w10 rfl rfl
    have hB : w.heap.size ≤ w8.heap.size := x8.size
    have o10 := Owns.alloc (w := w8) [] ty_api_Delta 5 0 rfl
    have x10 := Ex.alloc w8 (.cells [].toArray ty_api_Delta)
    generalize w8.alloc (.cells #[] ty_api_Delta) = w10 at o10 x10 ⊢
    have oL := o8
    have hx := x8
    have wfL : ∀ (f n : Nat), ∀ e ∈ (loadP seq d.now f n).1, e.wf := by
      intro f
      induction f with
      | zero => intro n e he; cases he
      | succ f ih =>
        intro n e he
        unfold loadP at he
        split at he
        · cases he
        · rename_i l hl
          rcases List.mem_append.1 he with he | he
          · have hb : Bytes (d.now.getD (24 + n) []) := by
              rw [List.getD_eq_getElem?_getD]
              cases hg' : d.now[24 + n]? with
              | none => intro z hz; cases hz
              | some s => exact (hg.now s (List.mem_of_getElem? hg')).2
            unfold readP at hl
            split at hl
            · rename_i l' hl'
              split at hl
              · cases hl
                exact (reads_some hb hl').2.1 e he
              · cases hl
            · cases hl
          · exact ih (n + 1) e he
    have lenL : ∀ (f n : Nat), (loadP seq d.now f n).1.length ≤ 6 * f := by
      intro f
      induction f with
      | zero => intro n; exact Nat.le_refl _
      | succ f ih =>
        intro n
        unfold loadP
        split
        · simp
        · rename_i l hl
          dsimp only
          rw [List.length_append]
          have := ih (n + 1)
          have h6 : l.length ≤ 6 := by
            have hb : Bytes (d.now.getD (24 + n) []) := by
              rw [List.getD_eq_getElem?_getD]
              cases hg' : d.now[24 + n]? with
              | none => intro z hz; cases hz
              | some s => exact (hg.now s (List.mem_of_getElem? hg')).2
            unfold readP at hl
            split at hl
            · rename_i l' hl'
              split at hl
              · cases hl
                exact (reads_some hb hl').1
              · cases hl
            · cases hl
          omega
    have k3 : ∀ (acc : List Dl) (m : Nat) (q : Option Addr) (cq : Nat) (w' : World), Ex w8 w' → Owns w' w8.heap.size ty_api_Delta 5 q acc.length cq (dcells acc) → loadP seq d.now 16 0 = (acc, m) →
        stopcocklaw15_SpoolLoads.k3 p (loadP seq d.now 16 0).1.length c ((loadP seq d.now 16 0).2 : Int) 0 q acc.length cq (m : Int) w' (Ret fun v w' => v = .bool true ∧ Ex w0 w') := by
      intro acc m q cq w' hx' oq heq
      have hwf := wfL 16 0
      have hle := lenL 16 0
      rw [heq] at oL hwf hle ⊢
      unfold stopcocklaw15_SpoolLoads.k3
      dsimp only
      rw [cond_pos (by rfl), cond_pos (by simp)]
      refine callP.use (same_spec p acc.length c q cq acc w' (oL.ex hx').cells oq.cells rfl (by dsimp only at hle; omega) hwf) ?_
      rintro _ w18 ⟨rfl, x18⟩
      try dsimp only [dI_i64, dI_u8, dI_u16, dI_u32, dB_bool, dS_slice, dP_ptr, dT_tup, dA_agg, dStr_str, dF_f, dC_c, dM_m, optP_some, ga0, ga1, ga2, ga3, ga4, cond_true, cond_false, chk_true, Bool.not_true, Bool.not_false, Option.isNone_none, Option.isNone_some, List.toList_toArray]
      exact Ret.mk ⟨rfl, hx0.trans (hx.trans (hx'.trans x18))⟩
    unfold stopcocklaw15_SpoolLoads.l2
    refine ⟨fun t1 t5 t8p t8n t8c t9 t10 t11p t11n t11c t12 w' => seq = t1 ∧ t5 = some ⟨pd, 0, none⟩ ∧ p = t8p ∧ t8n = (loadP seq d.now 16 0).1.length ∧ c = t8c ∧ t9 = ((loadP seq d.now 16 0).2 : Int) ∧ t10 = 0 ∧ 0 ≤ t12 ∧ t12 ≤ 16 ∧ Ex w8 w' ∧ ∃ acc : List Dl, acc.length = t11n ∧ t11n ≤ 6 * t12.toNat ∧ Owns w' w8.heap.size ty_api_Delta 5 t11p t11n t11c (dcells acc) ∧
        loadP seq d.now 16 0 = (acc ++ (loadP seq d.now (16 - t12.toNat) t12.toNat).1, (loadP seq d.now (16 - t12.toNat) t12.toNat).2),
      fun t1 t5 t8p t8n t8c t9 t10 t11p t11n t11c t12 w' => (16 - t12).toNat, ⟨rfl, rfl, rfl, rfl, rfl, rfl, rfl, by omega, by omega, x10, [], rfl, by omega, o10, rfl⟩, ?_⟩
    rintro _ _ _ _ _ _ _ t7p t7n t7c t23 w' ⟨rfl, rfl, rfl, rfl, rfl, rfl, rfl, h0, h1, hx', acc, hacc, hn6, own, heq⟩
    unfold stopcocklaw15_SpoolLoads.b2
    obtain ⟨k, rfl⟩ := Int.eq_ofNat_of_zero_le h0
    rw [Int.toNat_natCast] at heq hn6
    subst hacc
    refine cond_of (fun hk => ?_) (fun hk => ?_)
    · have hk := of_decide_eq_true hk
      have e24 : IntKind.i64.wrap (24 + (k : Int)) = ((24 + k : Nat) : Int) := by rw [w64 (by omega) (by omega)]; omega
      rw [e24]
      refine callP.use (Bas.Get_spec ((hd.ex hx).ex hx') hg ((24 + k : Nat) : Int)) ?_
      rintro _ w1 ⟨x1, hres⟩
      have hgot : Bas.got d ((24 + k : Nat) : Int) = 0 := by
        unfold Bas.got
        rw [hoff, if_neg (by simp), if_neg (by rw [hlen]; omega)]
      rcases hres with ⟨hne, _⟩ | ⟨_, p1, c1, s, hsec, rfl, o1⟩
      · exact (hne hgot).elim
      rw [Int.toNat_natCast] at hsec
      try dsimp only [dI_i64, dI_u8, dI_u16, dI_u32, dB_bool, dS_slice, dP_ptr, dT_tup, dA_agg, dStr_str, dF_f, dC_c, dM_m, optP_some, ga0, ga1, ga2, ga3, ga4, cond_true, cond_false, chk_true, Bool.not_true, Bool.not_false, Option.isNone_none, Option.isNone_some, List.toList_toArray]
      rw [cond_neg (by rfl)]
      have hS : Bas.Sec s := hg.now s (List.mem_of_getElem? hsec)
      have hgd : d.now.getD (24 + k) [] = s := by rw [List.getD_eq_getElem?_getD, hsec]; rfl
      have hf : 16 - k = (16 - (k + 1)) + 1 := by omega
      have hstep : loadP seq d.now (16 - k) k = match readP seq k s with
        | none => ([], k)
        | some l => (l ++ (loadP seq d.now (16 - (k + 1)) (k + 1)).1, (loadP seq d.now (16 - (k + 1)) (k + 1)).2) := by
        rw [hf, loadP, hgd]
        cases readP seq k s <;> rfl
      rw [hstep] at heq
      refine callP.use (lawRead_spec p1 c1 s w1 o1.cells hS.1 o1.2.1 hS.2) ?_
      rintro _ w3 ⟨x3, q, m, e, rfl, hres⟩
      try dsimp only [dI_i64, dI_u8, dI_u16, dI_u32, dB_bool, dS_slice, dP_ptr, dT_tup, dA_agg, dStr_str, dF_f, dC_c, dM_m, optP_some, ga0, ga1, ga2, ga3, ga4, cond_true, cond_false, chk_true, Bool.not_true, Bool.not_false, Option.isNone_none, Option.isNone_some, List.toList_toArray]
      have stop : ∀ (w' : World), Ex w1 w' → readP seq k s = none → stopcocklaw15_SpoolLoads.k3 p (loadP seq d.now 16 0).1.length c ((loadP seq d.now 16 0).2 : Int) 0 t7p acc.length t7c (k : Int) w' (Ret fun v w' => v = .bool true ∧ Ex w0 w') := by
        intro w2 hx2 hr
        rw [hr] at heq
        dsimp only at heq
        rw [List.append_nil] at heq
        exact k3 acc k t7p t7c w2 (hx'.trans (x1.trans hx2)) (own.ex (x1.trans hx2)) heq
      cases hr : reads s with
      | none =>
        rw [cond_pos (by rfl)]
        exact stop _ (x3.trans (Ex.drew w3)) (by unfold readP; rw [hr])
      | some l =>
        rw [cond_neg (by rfl)]
        obtain ⟨hlm, hm6, ol⟩ := hres l hr
        obtain ⟨_, hwf, hok⟩ := reads_some hS.2 hr
        have x3d := x3.trans (Ex.drew w3)
        have hcs : CellsO w3.drew p1 (v8 s) := (o1.ex x3d).cells
        refine ⟨s, hS.1, hcs, ?_⟩
        refine callP.use (lawSector_spec seq k q m e l w3.drew ⟨by omega, by omega⟩ (ol.ex (Ex.drew w3)).cells hlm hm6 hwf hok) ?_
        rintro _ w15 ⟨rfl, x15⟩
        try dsimp only [dI_i64, dI_u8, dI_u16, dI_u32, dB_bool, dS_slice, dP_ptr, dT_tup, dA_agg, dStr_str, dF_f, dC_c, dM_m, optP_some, ga0, ga1, ga2, ga3, ga4, cond_true, cond_false, chk_true, Bool.not_true, Bool.not_false, Option.isNone_none, Option.isNone_some, List.toList_toArray]
        refine ⟨s, hS.1, CellsO.ex x15 hcs, rfl, ?_⟩
        have hsl : (secB seq k l).length ≤ 60 := by rw [secB_len]; omega
        rw [strOf_eq (seal_bytes (secB_bytes hwf hok)) hS.2]
        have x315 := x3d.trans x15
        by_cases heqs : sealed (secB seq k l) = s
        · have hrp : readP seq k s = some l := by unfold readP; rw [hr]; dsimp only; rw [if_pos heqs]
          rw [hrp] at heq
          dsimp only at heq
          rw [cond_neg (by simp [heqs])]
          have x13 := x1.trans x315
          have hBw : w8.heap.size ≤ w15.heap.size := (hx'.trans x13).size
          refine appP_own (B := w8.heap.size) (own.ex x13) hBw (dcells l) ((ol.ex (Ex.drew w3)).ex x15).cells (by rw [dcells_len, hlm]) (dcells_one l) rfl (by omega) (by omega) ?_
          intro p9 c9 w9 o9 k9
          have x9 : Ex w8 w9 := (hx'.trans x13).then k9 fun i ⟨x, e, hi⟩ => by
            have := (own.ge e).1
            omega
          have en : IntKind.i64.wrap ((k : Int) + 1) = ((k + 1 : Nat) : Int) := by rw [w64 (by omega) (by omega)]; rfl
          rw [en]
          have tn : ((k + 1 : Nat) : Int).toNat = k + 1 := rfl
          refine ⟨⟨rfl, rfl, rfl, rfl, rfl, rfl, rfl, by omega, by omega, x9, acc ++ l, by rw [List.length_append, hlm], by rw [tn]; omega, by rw [dcells_app]; exact o9, ?_⟩, by ((try dsimp only); omega)⟩
          rw [tn, heq, List.append_assoc]
        · rw [cond_pos (by simp [heqs])]
          exact stop _ x315 (by unfold readP; rw [hr]; dsimp only; rw [if_neg heqs])
    · have hk := of_decide_eq_false hk
      obtain rfl : k = 16 := by omega
      have heq2 : loadP seq d.now 16 0 = (acc, 16) := by rw [heq]; simp [loadP]
      exact k3 acc 16 t7p t7c w' hx' own heq2
  · refine callP.use (Load_bad seq w hq) ?_
    rintro _ w8 ⟨rfl, x8⟩
    try dsimp only [dI_i64, dI_u8, dI_u16, dI_u32, dB_bool, dS_slice, dP_ptr, dT_tup, dA_agg, dStr_str, dF_f, dC_c, dM_m, optP_some, ga0, ga1, ga2, ga3, ga4, cond_true, cond_false, chk_true, Bool.not_true, Bool.not_false, Option.isNone_none, Option.isNone_some, List.toList_toArray]
    have fin : stopcocklaw15_SpoolLoads.k2 seq (some ⟨pd, 0, none⟩) none 0 0 0 1 true w8 (Ret fun v w' => v = .bool true ∧ Ex w0 w') := by
      unfold stopcocklaw15_SpoolLoads.k2
      rw [cond_pos (by rfl), cond_pos (by rfl), cond_pos (by rfl)]
      exact Ret.mk ⟨rfl, hx0.trans x8⟩
    refine cond_of (fun _ => fin) (fun h => ?_)
    have h := of_decide_eq_false h
    rw [decide_eq_true (show seq > 1073741824 by omega)]
    exact fin
theorem SpoolLoads_row (p : Option Addr) (n c : Nat) (rows : List (List Value)) (seq : Int) (w : World) (hl : SlIs w (fun b c => c * b ≤ 140737488351232) 24 (LineIs w (fun b c => c * b ≤ 140737488351232) (.sl 1 (.int .u8 .done) .done)) p n c rows) (hs : -9223372036854775808 ≤ seq ∧ seq ≤ 9223372036854775807) :
    stopcocklaw15_SpoolLoads.C p n c seq w (Ret fun v w' => v = .bool true ∧ Ex w w') := by
  obtain ⟨bs, rfl, hbs⟩ := bytes_of hl.each
  have hn : bs.length = n := by have := hl.size; rwa [List.length_map] at this
  have hcells := hl.cells
  have hroom := hl.room
  have hfits := hl.fits
  apply stopcocklaw15_SpoolLoads.ok
  unfold stopcocklaw15_SpoolLoads.main
  refine callP.use (Bas.New_spec 60 w (by omega)) ?_
  rintro _ w1 ⟨pd, D, rfl, x1, h1⟩
  try dsimp only [dI_i64, dI_u8, dI_u16, dI_u32, dB_bool, dS_slice, dP_ptr, dT_tup, dA_agg, dStr_str, dF_f, dC_c, dM_m, optP_some, ga0, ga1, ga2, ga3, ga4, cond_true, cond_false, chk_true, Bool.not_true, Bool.not_false, Option.isNone_none, Option.isNone_some, List.toList_toArray]
  refine callP.use (awake_spec w1) ?_
  rintro _ w3 ⟨rfl, x3⟩
  try dsimp only [dI_i64, dI_u8, dI_u16, dI_u32, dB_bool, dS_slice, dP_ptr, dT_tup, dA_agg, dStr_str, dF_f, dC_c, dM_m, optP_some, ga0, ga1, ga2, ga3, ga4, cond_true, cond_false, chk_true, Bool.not_true, Bool.not_false, Option.isNone_none, Option.isNone_some, List.toList_toArray]
  rw [cond_neg (by rfl)]
  have hg : Bas.Good (Bas.fresh 60) := Bas.fresh_good (by omega)
  unfold stopcocklaw15_SpoolLoads.l1
  refine ⟨fun t0p t0n t0c t1 t5 t7 w' => p = t0p ∧ n = t0n ∧ c = t0c ∧ seq = t1 ∧ t5 = some ⟨pd, 0, none⟩ ∧ 0 ≤ t7 ∧ t7 ≤ 16 ∧ Ex w w' ∧ ∃ d D, Plain w' w.heap.size pd d D t7.toNat, fun t0p t0n t0c t1 t5 t7 w' => (16 - t7).toNat,
    ⟨rfl, rfl, rfl, rfl, rfl, by omega, by omega, x1.trans x3, _, D, h1.ex x3, hg, rfl, rfl, by rfl, by decide⟩, ?_⟩
  rintro _ _ _ _ _ t7 w' ⟨rfl, rfl, rfl, rfl, rfl, h0, h16, hx, d, D, hd⟩
  unfold stopcocklaw15_SpoolLoads.b1
  refine cond_of (fun h => ?_) (fun _ => loads_k1 hd hx seq hs)
  have h := of_decide_eq_true h
  refine cond_of (fun h2 => ?_) (fun _ => loads_k1 hd hx seq hs)
  have h2 := of_decide_eq_true h2
  obtain ⟨j, rfl⟩ := Int.eq_ofNat_of_zero_le h0
  obtain ⟨b, hb, hm, _⟩ := Bas.getE (show j < bs.length by omega)
  have hrow : ∃ a, p = some a ∧ w'.cell? (a.add (j * 1)) = some (.slice b.p b.n b.c) := by
    obtain ⟨a, e, hc⟩ := CellsO.row (hcells.ex hx) (k := 1) (fun r hr => by obtain ⟨d, _, rfl⟩ := List.mem_map.1 hr; rfl) (by omega) (i := j) (r := b.cells) (by rw [List.getElem?_map, hb]; rfl)
    refine ⟨a, e, ?_⟩
    have := hc 0 _ rfl
    rwa [show (a.add (j * 1)).add 0 = a.add (j * 1) from Addr.add_zero' _] at this
  obtain ⟨a, rfl, hcell⟩ := hrow
  obtain ⟨hbc, hbl, hbb, hbcap⟩ := hbs b hm
  have en : IntKind.i64.wrap ((j : Int) + 1) = ((j + 1 : Nat) : Int) := by rw [w64 (by omega) (by omega)]; rfl
  rw [en]
  refine chk_of (decide_eq_true h0) (chk_of (decide_eq_true h) ?_)
  try dsimp only [dI_i64, dI_u8, dI_u16, dI_u32, dB_bool, dS_slice, dP_ptr, dT_tup, dA_agg, dStr_str, dF_f, dC_c, dM_m, optP_some, ga0, ga1, ga2, ga3, ga4, cond_true, cond_false, chk_true, Bool.not_true, Bool.not_false, Option.isNone_none, Option.isNone_some, List.toList_toArray]
  rw [Int.toNat_natCast]
  refine ⟨b.p, b.n, b.c, hcell, ?_⟩
  refine cond_of (fun h64 => ?_) (fun _ => ?_)
  · have h64i : (b.n : Int) = 64 := by simpa using h64
    have h64 : b.n = 64 := by omega
    refine chk_of (decide_eq_true h0) (chk_of (decide_eq_true h) ?_)
    try dsimp only [dI_i64, dI_u8, dI_u16, dI_u32, dB_bool, dS_slice, dP_ptr, dT_tup, dA_agg, dStr_str, dF_f, dC_c, dM_m, optP_some, ga0, ga1, ga2, ga3, ga4, cond_true, cond_false, chk_true, Bool.not_true, Bool.not_false, Option.isNone_none, Option.isNone_some, List.toList_toArray]
    refine ⟨b.p, b.n, b.c, hcell, ?_⟩
    have e24 : IntKind.i64.wrap (24 + (j : Int)) = ((24 + j : Nat) : Int) := by rw [w64 (by omega) (by omega)]; omega
    rw [e24, h64]
    rintro b2 w5 rfl rfl
    have o5 := Owns.new (w := w') [.int .i64 ((24 + j : Nat) : Int), .slice b.p 64 b.c] ty_api_Write
    have x5 := Ex.alloc w' (.cells [Value.int .i64 ((24 + j : Nat) : Int), .slice b.p 64 b.c].toArray ty_api_Write)
    generalize w'.alloc (.cells #[.int .i64 ((24 + j : Nat) : Int), .slice b.p 64 b.c] ty_api_Write) = w5 at o5 x5 ⊢
    obtain ⟨hdev, hgood, hoff, haft, hlen, hfew⟩ := hd
    rw [Int.toNat_natCast] at hfew
    have hdev5 := hdev.ex x5
    have hx5 := hx.trans x5
    have hsec : Bas.Sec b.xs := ⟨by rw [hbl, h64], hbb⟩
    have hP := Bas.Put_spec hdev5 hgood hx5.size (ws := [⟨((24 + j : Nat) : Int), b.xs, b.p, 64, b.c⟩]) rfl (c := 1) (Bas.CellsK.of_own hdev5 o5 (by decide) (by decide) (by decide)) (fun x hx => by
      simp only [List.mem_singleton] at hx
      subst hx
      exact ⟨Bas.CellsK.of_ex hbc hx5 fun i hi => (hdev5.typed hi).2.1, hsec.1, hsec.2⟩) (by simp only [List.length_singleton]; omega) (by simp only [List.length_singleton]; omega)
    have hput := Bas.put_live (d := d) haft hoff (i := ((24 + j : Nat) : Int)) (s := b.xs) ⟨by omega, by rw [hlen]; omega⟩ hsec.1
    have e1 : List.map Bas.Wt.plain [⟨((24 + j : Nat) : Int), b.xs, b.p, 64, b.c⟩] = [(((24 + j : Nat) : Int), b.xs)] := rfl
    rw [e1, hput] at hP
    refine callP.use hP ?_
    rintro _ w6 ⟨rfl, D', h6, hg6, k6, hD'⟩
    try dsimp only [dI_i64, dI_u8, dI_u16, dI_u32, dB_bool, dS_slice, dP_ptr, dT_tup, dA_agg, dStr_str, dF_f, dC_c, dM_m, optP_some, ga0, ga1, ga2, ga3, ga4, cond_true, cond_false, chk_true, Bool.not_true, Bool.not_false, Option.isNone_none, Option.isNone_some, List.toList_toArray]
    rw [cond_neg (by rfl)]
    have tn : ((j + 1 : Nat) : Int).toNat = j + 1 := rfl
    refine ⟨⟨rfl, rfl, rfl, rfl, rfl, by omega, by omega, hx5.then k6 fun i hi => (hdev5.typed hi).2.1, _, D', h6, hg6, hoff, haft, ?_, ?_⟩, by ((try dsimp only); omega)⟩
    · simp only [Bas.put1, List.length_set]; exact hlen
    · simp only [Bas.put1, List.length_append, List.length_singleton, tn]; omega
  · exact ⟨⟨rfl, rfl, rfl, rfl, rfl, by omega, by omega, hx, d, D, hd.dev, hd.good, hd.off, hd.after, hd.len, by have := hd.few; rw [Int.toNat_natCast] at this; show _ ≤ j + 1; omega⟩, by ((try dsimp only); omega)⟩
end Go.Proofs.Ytnbegeghcjldfaa.G
