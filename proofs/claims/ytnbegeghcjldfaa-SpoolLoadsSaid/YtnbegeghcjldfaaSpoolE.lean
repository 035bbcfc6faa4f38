/-
  The law SpoolLoads: the document's sector and read; the walk.
-/
import Derived.Test.YtnbegeghcjldfaaSpoolD
import Derived.Test.YtnbegeghcjldfaaDeltaC
namespace Go.Proofs.Ytnbegeghcjldfaa.G
open Go.Dec Go.RowKit
set_option linter.unusedVariables false
set_option linter.unusedSimpArgs false

theorem lawSector_spec (seq num : Int) (p : Option Addr) (n c : Nat) (l : List Dl) (w : World) (hs : 0 ≤ seq ∧ seq < 4294967296) (hc : CellsO w p (dcells l)) (hn : l.length = n) (h6 : n ≤ 6) (hw : ∀ d ∈ l, d.wf) (hf : ∀ d ∈ l, chk0 d = 0) :
    stopcocklaw15_sector.C seq num p n c w (Ret fun v w' => v = .string (strOf (sealed (secB seq num l))) ∧ Ex w w') := by
  apply stopcocklaw15_sector.ok
  unfold stopcocklaw15_sector.main
  refine callP.use (Cel.refPut_spec none 0 0 [] 4 seq w rfl rfl (by omega) (by omega)) ?_
  rintro _ w2 ⟨p2, n2, c2, rfl, hn2, o2, x2⟩
  try dsimp only [dI_i64, dI_u8, dI_u16, dI_u32, dB_bool, dS_slice, dP_ptr, dT_tup, dA_agg, dStr_str, dF_f, dC_c, dM_m, optP_some, ga0, ga1, ga2, ga3, ga4, cond_true, cond_false, chk_true, Bool.not_true, Bool.not_false, Option.isNone_none, Option.isNone_some, List.toList_toArray]
  have ok4 : Cel.okNum 4 seq = true := by
    simp only [Cel.okNum, Bool.and_eq_true, decide_eq_true_eq]
    exact ⟨hs.1, hs.2⟩
  have hrow : Cel.putB [] 4 seq = Cel.be 4 seq := by
    have := Cel.putB_nat (s := 4) (by omega) (by omega) [] seq
    rw [if_pos ok4] at this
    have e : ((4 : Nat) : Int) = 4 := rfl
    rw [e] at this
    rw [this]
    simp
  rw [hrow] at o2
  have hl2 : n2 = 4 := by have := own_len (xs := Cel.be 4 seq) o2; rw [Cel.be_length] at this; exact this.symm
  subst hl2
  rintro b3 w3 rfl rfl
  rw [wu8, wu8]
  have o3 := Owns.alloc (w := w2) (v8 [num % 256, (n : Int) % 256]) ty_uint8 1 2 rfl
  have x3 := Ex.alloc w2 (.cells (v8 [num % 256, (n : Int) % 256]).toArray ty_uint8)
  generalize hw3 : w2.alloc (.cells #[.int .u8 (num % 256), .int .u8 ((n : Int) % 256)] ty_uint8) = w3
  have hw3' : w2.alloc (.cells (v8 [num % 256, (n : Int) % 256]).toArray ty_uint8) = w3 := hw3
  rw [hw3'] at o3 x3
  have x13 : Ex w w3 := x2.trans x3
  refine appP_own (B := w.heap.size) (o2.ex x3) x13.size (v8 [num % 256, (n : Int) % 256]) o3.cells rfl (v8_one _) rfl (by omega) (by omega) ?_
  intro p5 c5 w5 o5 k5
  have x5 : Ex w w5 := x13.then k5 fun i ⟨x, e, hi⟩ => by
    have := (o2.ge e).1
    omega
  have e5 : v8 (Cel.be 4 seq) ++ v8 [num % 256, (n : Int) % 256] = v8 (Cel.be 4 seq ++ [num % 256, (n : Int) % 256]) := v8_app _ _
  have o5 : Owns w5 w.heap.size ty_uint8 1 p5 (4 + 2) c5 (v8 (Cel.be 4 seq ++ [num % 256, (n : Int) % 256])) := by rw [← e5]; exact o5
  unfold stopcocklaw15_sector.l1
  refine ⟨fun t2p t2n t2c t7p t7n t7c t9 w' => p = t2p ∧ n = t2n ∧ c = t2c ∧ 0 ≤ t9 ∧ t9 ≤ n ∧ t7n = 6 + t9.toNat * 5 ∧ Owns w' w.heap.size ty_uint8 1 t7p t7n t7c (v8 (Cel.be 4 seq ++ [num % 256, (n : Int) % 256] ++ (l.take t9.toNat).flatMap encB)) ∧ Ex w w',
    fun t2p t2n t2c t7p t7n t7c t9 w' => (n - t9).toNat, ⟨rfl, rfl, rfl, by omega, by omega, rfl, by simpa using o5, x5⟩, ?_⟩
  rintro _ _ _ t8p t8n t8c t30 w' ⟨rfl, rfl, rfl, h0, h1, hlen, ho, hx⟩
  unfold stopcocklaw15_sector.b1
  refine cond_of (fun h => ?_) (fun h => ?_)
  · have h := of_decide_eq_true h
    obtain ⟨j, rfl⟩ := Int.eq_ofNat_of_zero_le h0
    have hj : j < l.length := by omega
    obtain ⟨d, hd, hm, hdr⟩ := Bas.getE hj
    refine chk_of (decide_eq_true h0) (chk_of (decide_eq_true h) ?_)
    obtain ⟨a, rfl, hrow⟩ := drow (hc.ex hx) hd
    try dsimp only [dI_i64, dI_u8, dI_u16, dI_u32, dB_bool, dS_slice, dP_ptr, dT_tup, dA_agg, dStr_str, dF_f, dC_c, dM_m, optP_some, ga0, ga1, ga2, ga3, ga4, cond_true, cond_false, chk_true, Bool.not_true, Bool.not_false, Option.isNone_none, Option.isNone_some, List.toList_toArray]
    refine ⟨d.cells.toArray, rfl, hrow, ?_⟩
    refine callP.use (refEncode_spec (hw d hm) (hf d hm) _) ?_
    rintro _ w8 ⟨p8, c8, rfl, x78, o8⟩
    try dsimp only [dI_i64, dI_u8, dI_u16, dI_u32, dB_bool, dS_slice, dP_ptr, dT_tup, dA_agg, dStr_str, dF_f, dC_c, dM_m, optP_some, ga0, ga1, ga2, ga3, ga4, cond_true, cond_false, chk_true, Bool.not_true, Bool.not_false, Option.isNone_none, Option.isNone_some, List.toList_toArray]
    refine appP_own (B := w.heap.size) (ho.ex x78) (hx.trans x78).size (v8 (encB d)) o8.cells (by simp [v8, encB]) (v8_one _) rfl (by omega) (by omega) ?_
    intro p9 c9 w9 o9 k9
    have x9 : Ex w w9 := (hx.trans x78).then k9 fun i ⟨x, e, hi⟩ => by
      have := (ho.ge e).1
      omega
    have et : l.take (j + 1) = l.take j ++ [d] := by
      rw [List.take_add_one, hd]; rfl
    have en : IntKind.i64.wrap ((j : Int) + 1) = ((j + 1 : Nat) : Int) := by rw [w64 (by omega) (by omega)]; rfl
    rw [en]
    have tn : ((j + 1 : Nat) : Int).toNat = j + 1 := rfl
    refine ⟨⟨rfl, rfl, rfl, by omega, by omega, ?_, ?_, x9⟩, by ((try dsimp only); omega)⟩
    · show t8n + 5 = _
      omega
    · show Owns w9 _ _ _ p9 (t8n + 5) c9 (v8 (_ ++ (l.take (j + 1)).flatMap encB))
      rw [et, List.flatMap_append, ← List.append_assoc, ← v8_app]
      have : [d].flatMap encB = encB d := by simp
      rw [this]
      exact o9
  · have h := of_decide_eq_false h
    have e : t30 = n := by omega
    subst e
    have ef : l.take ((n : Nat) : Int).toNat = l := by rw [Int.toNat_natCast]; exact List.take_of_length_le (by omega)
    rw [ef] at ho
    have eb : Cel.be 4 seq ++ [num % 256, (n : Int) % 256] ++ l.flatMap encB = secB seq num l := by unfold secB; rw [hn]
    rw [eb] at ho
    have hle := secB_len seq num l
    unfold stopcocklaw15_sector.k1
    refine callP.use (refClose_spec t8p t8n t8c _ w' ho.cells (by omega) (secB_bytes hw hf)) ?_
    rintro _ w2 ⟨q, m, e, rfl, hm, oq, xq⟩
    try dsimp only [dI_i64, dI_u8, dI_u16, dI_u32, dB_bool, dS_slice, dP_ptr, dT_tup, dA_agg, dStr_str, dF_f, dC_c, dM_m, optP_some, ga0, ga1, ga2, ga3, ga4, cond_true, cond_false, chk_true, Bool.not_true, Bool.not_false, Option.isNone_none, Option.isNone_some, List.toList_toArray]
    have hcl : cloB (secB seq num l) = sealed (secB seq num l) := cloB_le (by omega)
    rw [hcl] at oq
    exact ⟨sealed (secB seq num l), own_len oq, oq.cells, Ret.mk ⟨rfl, hx.trans xq⟩⟩

theorem lawRead_spec (p : Option Addr) (c : Nat) (xs : List Int) (w : World) (hc : CellsO w p (v8 xs)) (hn : xs.length = 64) (hcap : 64 ≤ c) (hb : Bytes xs) :
    stopcocklaw15_read.C p 64 c w (Ret fun v w' => Ex w w' ∧ ∃ q m d, v = .tuple #[.slice q m d, .bool (reads xs).isSome] ∧ ∀ l, reads xs = some l → l.length = m ∧ m ≤ 6 ∧ Owns w' w.heap.size ty_api_Delta 5 q m d (dcells l)) := by
  apply stopcocklaw15_read.ok
  unfold stopcocklaw15_read.main
  refine callP.use (refOpen_spec p 64 c xs w hc hn hcap hb) ?_
  rintro _ w1 ⟨p1, n1, c1, rfl, hn1, o1, x1⟩
  try dsimp only [dI_i64, dI_u8, dI_u16, dI_u32, dB_bool, dS_slice, dP_ptr, dT_tup, dA_agg, dStr_str, dF_f, dC_c, dM_m, optP_some, ga0, ga1, ga2, ga3, ga4, cond_true, cond_false, chk_true, Bool.not_true, Bool.not_false, Option.isNone_none, Option.isNone_some, List.toList_toArray]
  refine cond_of (fun h => ?_) (fun h => ?_)
  · have h : ¬ opnE xs = 0 := by simpa using h
    have e : reads xs = none := by unfold reads; rw [if_neg (fun c => h c.1)]
    rw [e]
    exact Ret.mk ⟨x1, none, 0, 0, rfl, fun l hl => by cases hl⟩
  have h : opnE xs = 0 := by simpa using h
  obtain ⟨_, hB⟩ := open_ok h
  rw [hB] at o1
  have hn1' : n1 = 60 := by have := own_len o1; rw [List.length_take, hn] at this; exact this.symm
  subst hn1'
  have hcc : 60 ≤ c1 := o1.2.1
  have h5 : (v8 (xs.take 60))[5]? = some (.int .u8 (cnt xs)) := by
    unfold v8 cnt
    rw [List.getElem?_map, List.getElem?_take, if_pos (by omega), List.getD_eq_getElem?_getD, List.getElem?_eq_getElem (by omega)]
    rfl
  obtain ⟨a1, rfl, r5⟩ := o1.cells.many h5
  refine chk_of (by decide) ?_
  try dsimp only [dI_i64, dI_u8, dI_u16, dI_u32, dB_bool, dS_slice, dP_ptr, dT_tup, dA_agg, dStr_str, dF_f, dC_c, dM_m, optP_some, ga0, ga1, ga2, ga3, ga4, cond_true, cond_false, chk_true, Bool.not_true, Bool.not_false, Option.isNone_none, Option.isNone_some, List.toList_toArray]
  refine ⟨cnt xs, r5, ?_⟩
  refine cond_of (fun h1 => ?_) (fun h1 => ?_)
  · have h1 := of_decide_eq_true h1
    have e : reads xs = none := by unfold reads; rw [if_neg (fun c => by omega)]
    rw [e]
    exact Ret.mk ⟨x1, none, 0, 0, rfl, fun l hl => by cases hl⟩
  have h1 := of_decide_eq_false h1
  refine chk_of (by decide) ?_
  refine ⟨cnt xs, r5, ?_⟩
  refine cond_of (fun h2 => ?_) (fun h2 => ?_)
  · have h2 := of_decide_eq_true h2
    have e : reads xs = none := by unfold reads; rw [if_neg (fun c => by omega)]
    rw [e]
    exact Ret.mk ⟨x1, none, 0, 0, rfl, fun l hl => by cases hl⟩
  have h2 := of_decide_eq_false h2
  obtain ⟨m, hm⟩ := Int.eq_ofNat_of_zero_le (show 0 ≤ cnt xs by omega)
  have hmn : (cnt xs).toNat = m := by omega
  have hB0 := x1.size
  rintro b3 w3 rfl rfl
  have o3 := (Owns.alloc (w := w1) [] ty_api_Delta 5 0 rfl).lower hB0
  have x3 := Ex.alloc w1 (.cells [].toArray ty_api_Delta)
  have hb3 : (some ⟨w1.heap.size, 0, none⟩ : Option Addr) = some ⟨w1.heap.size, 0, none⟩ := rfl
  generalize w1.alloc (.cells #[] ty_api_Delta) = w3 at o3 x3 ⊢
  unfold stopcocklaw15_read.l1
  refine ⟨fun t8p t8n t8c t10p t10n t10c t38 w' => t8p = some a1 ∧ t8n = 60 ∧ c1 = t8c ∧ 0 ≤ t38 ∧ t38 ≤ m ∧ t10n = t38.toNat ∧ (∀ d ∈ dls xs t38.toNat, chk0 d = 0) ∧ Owns w' w.heap.size ty_api_Delta 5 t10p t10n t10c (dcells (dls xs t38.toNat)) ∧ Owns w' w.heap.size ty_uint8 1 (some a1) 60 c1 (v8 (xs.take 60)) ∧ Ex w w',
    fun t8p t8n t8c t10p t10n t10c t38 w' => (m - t38).toNat, ⟨rfl, rfl, rfl, by omega, by omega, rfl, fun d hd => (by cases hd), o3, o1.ex x3, x1.trans x3⟩, ?_⟩
  rintro _ _ _ t10p t10n t10c t38 w' ⟨rfl, rfl, rfl, h0, hle, hlen, hok, ho, o1, hx⟩
  unfold stopcocklaw15_read.b1
  obtain ⟨j, rfl⟩ := Int.eq_ofNat_of_zero_le h0
  rw [Int.toNat_natCast] at hlen hok ho
  obtain rfl := hlen.symm
  refine chk_of (by decide) ?_
  try dsimp only [dI_i64, dI_u8, dI_u16, dI_u32, dB_bool, dS_slice, dP_ptr, dT_tup, dA_agg, dStr_str, dF_f, dC_c, dM_m, optP_some, ga0, ga1, ga2, ga3, ga4, cond_true, cond_false, chk_true, Bool.not_true, Bool.not_false, Option.isNone_none, Option.isNone_some, List.toList_toArray]
  obtain ⟨_, ea, r5'⟩ := o1.cells.many h5
  cases ea
  refine ⟨cnt xs, r5', ?_⟩
  rw [w64 (x := cnt xs) (by omega) (by omega)]
  refine cond_of (fun h => ?_) (fun h3 => ?_)
  · have h := of_decide_eq_true h
    have hj : j < 6 := by omega
    have e1 : IntKind.i64.wrap (6 + IntKind.i64.wrap (5 * (j : Int))) = ((6 + 5 * j : Nat) : Int) := by
      rw [w64 (x := 5 * (j : Int)) (by omega) (by omega), w64 (by omega) (by omega)]; omega
    have e2 : IntKind.i64.wrap (11 + IntKind.i64.wrap (5 * (j : Int))) = ((11 + 5 * j : Nat) : Int) := by
      rw [w64 (x := 5 * (j : Int)) (by omega) (by omega), w64 (by omega) (by omega)]; omega
    rw [e1, e2, Int.toNat_natCast, Int.toNat_natCast]
    refine chk_of (decide_eq_true (by omega)) (chk_of (decide_eq_true (by omega)) (chk_of (decide_eq_true (by omega)) (chk_of (decide_eq_true (by omega)) ?_)))
    have hpart := part5 (c := c1) o1.cells (by rw [List.length_take, hn]; omega) (6 + 5 * j)
    rw [dl_take hj] at hpart
    have e5 : 11 + 5 * j - (6 + 5 * j) = 5 := by omega
    rw [e5]
    have hbp : Bytes ((xs.drop (6 + 5 * j)).take 5) := (hb.drop _).take _
    have hl5 : ((xs.drop (6 + 5 * j)).take 5).length = 5 := by rw [List.length_take, List.length_drop, hn]; omega
    refine callP.use (refDecode_spec hpart hl5 hbp) ?_
    rintro _ w3 ⟨rfl, x3⟩
    try dsimp only [dI_i64, dI_u8, dI_u16, dI_u32, dB_bool, dS_slice, dP_ptr, dT_tup, dA_agg, dStr_str, dF_f, dC_c, dM_m, optP_some, ga0, ga1, ga2, ga3, ga4, cond_true, cond_false, chk_true, Bool.not_true, Bool.not_false, Option.isNone_none, Option.isNone_some, List.toList_toArray]
    rintro b5 w5 rfl rfl
    have o5 := Owns.new (w := w3) zcells ty_api_Delta
    have x5 := Ex.alloc w3 (.cells zcells.toArray ty_api_Delta)
    unfold zcells at o5 x5
    generalize w3.alloc (.cells #[.int .i64 0, .int .i64 0, .int .i64 0, .int .i64 0, .complex .f64 0 0] ty_api_Delta) = w5 at o5 x5 ⊢
    have hV : (decV ((xs.drop (6 + 5 * j)).take 5)).length = 5 := by unfold decV; split <;> rfl
    have hV1 : ∀ y ∈ decV ((xs.drop (6 + 5 * j)).take 5), y.oneCell' = true := by unfold decV; split; exact dcells_one' _; exact zcells_one
    refine chk_of (decide_eq_true (by rw [List.size_toArray]; exact hV)) ?_
    refine o5.put (cs := decV ((xs.drop (6 + 5 * j)).take 5)) hV hV1 fun w6 k6 o6 => ?_
    have x36 : Ex w3 w6 := x5.then k6 fun i hi => hi ▸ Nat.le_refl _
    have x6 : Ex w' w6 := x3.trans x36
    by_cases hd : chk0 (dl xs j) = 0
    · have hd' : chk0 (decD ((xs.drop (6 + 5 * j)).take 5)) = 0 := hd
      rw [if_pos hd', cond_neg (by rfl)]
      refine ⟨(decV ((xs.drop (6 + 5 * j)).take 5)).toArray, by rw [List.size_toArray]; exact hV, o6.cells, ?_⟩
      have hfill : Instr.fill (fun i => some (i * 5, 5)) (madeCells #[(Value.int .i64 0), (Value.int .i64 0), (Value.int .i64 0), (Value.int .i64 0), (Value.complex .f64 0 0)] (1 * 5)) [(0, (Value.agg (decV ((xs.drop (6 + 5 * j)).take 5)).toArray))] = some (decV ((xs.drop (6 + 5 * j)).take 5)).toArray :=
        fill_whole 5 _ _ (by rw [size_madeCells]) (by rw [List.size_toArray]; exact hV)
      rw [hfill]
      try dsimp only [dI_i64, dI_u8, dI_u16, dI_u32, dB_bool, dS_slice, dP_ptr, dT_tup, dA_agg, dStr_str, dF_f, dC_c, dM_m, optP_some, ga0, ga1, ga2, ga3, ga4, cond_true, cond_false, chk_true, Bool.not_true, Bool.not_false, Option.isNone_none, Option.isNone_some, List.toList_toArray]
      rintro b7 w7 rfl rfl
      have hVc : decV ((xs.drop (6 + 5 * j)).take 5) = (dl xs j).cells := by unfold decV; rw [if_pos hd']; rfl
      rw [hVc]
      have x7 := Ex.alloc w6 (.cells (dl xs j).cells.toArray ty_api_Delta)
      have c7 : CellsO (w6.alloc (.cells (dl xs j).cells.toArray ty_api_Delta)) (some ⟨w6.heap.size, 0, none⟩) (dl xs j).cells := CellsO.alloc _ _
      generalize w6.alloc (.cells (dl xs j).cells.toArray ty_api_Delta) = w7 at x7 c7 ⊢
      have xx := x6.trans x7
      refine appP_own (B := w.heap.size) (ho.ex xx) (hx.trans xx).size (dl xs j).cells c7 rfl (dcells_one' _) rfl (by omega) (by omega) ?_
      intro p9 c9 w9 o9 k9
      have x9 : Ex w w9 := (hx.trans xx).then k9 fun i ⟨x, e, hi⟩ => by
        have := (ho.ge e).1
        omega
      have o1' : Owns w9 w.heap.size ty_uint8 1 (some a1) 60 c1 (v8 (xs.take 60)) :=
        (o1.ex xx).away k9 ty_api_Delta (fun i ⟨x, e, hi⟩ => hi ▸ ((ho.ex xx).typed e).1) (by decide)
      have en : IntKind.i64.wrap ((j : Int) + 1) = ((j + 1 : Nat) : Int) := by rw [w64 (by omega) (by omega)]; rfl
      rw [en]
      have tn : ((j + 1 : Nat) : Int).toNat = j + 1 := rfl
      refine ⟨⟨rfl, rfl, rfl, by omega, by omega, rfl, ?_, ?_, o1', x9⟩, by ((try dsimp only); omega)⟩
      · intro d hdm
        rw [tn, dls_next] at hdm
        rcases List.mem_append.1 hdm with hdm | hdm
        · exact hok d hdm
        · rw [List.mem_singleton.1 hdm]; exact hd
      · rw [tn, dls_next, dcells_app]
        have : dcells [dl xs j] = (dl xs j).cells := by simp [dcells]
        rw [this]
        exact o9
    · have hd' : ¬ chk0 (decD ((xs.drop (6 + 5 * j)).take 5)) = 0 := hd
      rw [if_neg hd', cond_pos (by rfl)]
      have e : reads xs = none := by
        unfold reads
        rw [if_neg (fun c => hd (c.2.2.2 _ (List.mem_map.2 ⟨j, List.mem_range.2 (by omega), rfl⟩)))]
      rw [e]
      exact Ret.mk ⟨hx.trans x6, none, 0, 0, rfl, fun l hl => by cases hl⟩
  · have h3 := of_decide_eq_false h3
    obtain rfl : m = j := by omega
    have e : reads xs = some (dls xs m) := by
      unfold reads
      rw [hmn, if_pos ⟨‹opnE xs = 0›, by omega, by omega, hok⟩]
    rw [e]
    refine Ret.mk ⟨hx, t10p, m, t10c, rfl, fun l hl => ?_⟩
    cases hl
    exact ⟨dls_len _ _, by omega, ho⟩
theorem reads_some {xs : List Int} (hb : Bytes xs) {l : List Dl} (h : reads xs = some l) : l.length ≤ 6 ∧ (∀ d ∈ l, d.wf) ∧ ∀ d ∈ l, chk0 d = 0 := by
  unfold reads at h
  split at h
  · rename_i c
    cases h
    exact ⟨by rw [dls_len]; omega, dls_wf hb _, c.2.2.2⟩
  · cases h

theorem same_spec (p : Option Addr) (n c : Nat) (q : Option Addr) (c2 : Nat) (l : List Dl) (w : World) (hp : CellsO w p (dcells l)) (hq : CellsO w q (dcells l)) (hn : l.length = n) (hl : n ≤ 1000000) (hw : ∀ d ∈ l, d.wf) :
    stopcocklaw15_same.C p n c q n c2 w (Ret fun v w' => v = .bool true ∧ Ex w w') := by
  apply stopcocklaw15_same.ok
  unfold stopcocklaw15_same.main
  rw [cond_neg (by simp)]
  unfold stopcocklaw15_same.l1
  refine ⟨fun t0p t0n t0c t1p t1n t1c t5 w' => p = t0p ∧ n = t0n ∧ c = t0c ∧ q = t1p ∧ n = t1n ∧ c2 = t1c ∧ 0 ≤ t5 ∧ t5 ≤ n ∧ Ex w w', fun t0p t0n t0c t1p t1n t1c t5 w' => (n - t5).toNat, ⟨rfl, rfl, rfl, rfl, rfl, rfl, by omega, by omega, Ex.refl w⟩, ?_⟩
  rintro _ _ _ _ _ _ t5 w' ⟨rfl, rfl, rfl, rfl, rfl, rfl, h0, h1, hx⟩
  unfold stopcocklaw15_same.b1
  refine cond_of (fun h => ?_) (fun h => Ret.mk ⟨rfl, hx⟩)
  have h := of_decide_eq_true h
  obtain ⟨j, rfl⟩ := Int.eq_ofNat_of_zero_le h0
  obtain ⟨d, hd, hm, _⟩ := Bas.getE (show j < l.length by omega)
  obtain ⟨a, rfl, ra⟩ := drow (hp.ex hx) hd
  obtain ⟨b, rfl, rb⟩ := drow (hq.ex hx) hd
  refine chk_of (decide_eq_true h0) (chk_of (decide_eq_true h) ?_)
  try dsimp only [dI_i64, dI_u8, dI_u16, dI_u32, dB_bool, dS_slice, dP_ptr, dT_tup, dA_agg, dStr_str, dF_f, dC_c, dM_m, optP_some, ga0, ga1, ga2, ga3, ga4, cond_true, cond_false, chk_true, Bool.not_true, Bool.not_false, Option.isNone_none, Option.isNone_some, List.toList_toArray]
  refine ⟨d.cells.toArray, rfl, ra, chk_of (decide_eq_true h0) (chk_of (decide_eq_true h) ?_)⟩
  try dsimp only [dI_i64, dI_u8, dI_u16, dI_u32, dB_bool, dS_slice, dP_ptr, dT_tup, dA_agg, dStr_str, dF_f, dC_c, dM_m, optP_some, ga0, ga1, ga2, ga3, ga4, cond_true, cond_false, chk_true, Bool.not_true, Bool.not_false, Option.isNone_none, Option.isNone_some, List.toList_toArray]
  refine ⟨d.cells.toArray, rfl, rb, false, eq_self (hw d hm) _ _, fun k => ?_⟩
  rw [cond_neg rfl, w64 (by omega) (by omega)]
  exact ⟨⟨rfl, rfl, rfl, rfl, rfl, rfl, by omega, by omega, hx.trans (Ex.drewN _ _)⟩, by ((try dsimp only); omega)⟩
end Go.Proofs.Ytnbegeghcjldfaa.G
