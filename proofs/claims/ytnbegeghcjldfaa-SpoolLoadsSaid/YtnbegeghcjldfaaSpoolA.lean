/-
  spool.sector, spool.read, spool.Load: what they compute.
-/
import Derived.Test.YtnbegeghcjldfaaDeltaB
namespace Go.Proofs.Ytnbegeghcjldfaa.G
open Go.Dec Go.RowKit
set_option linter.unusedVariables false
set_option linter.unusedSimpArgs false

def dcells (l : List Dl) : List Value := (l.map Dl.cells).flatten
theorem dcells_len (l : List Dl) : (dcells l).length = l.length * 5 := by
  unfold dcells
  induction l with
  | nil => rfl
  | cons d r ih => simp only [List.map_cons, List.flatten_cons, List.length_append, ih, List.length_cons]; show 5 + _ = _; omega
theorem dcells_one (l : List Dl) : ∀ z ∈ dcells l, z.oneCell' = true := by
  intro z hz
  obtain ⟨r, hr, hz⟩ := List.mem_flatten.1 hz
  obtain ⟨d, _, rfl⟩ := List.mem_map.1 hr
  exact dcells_one' d z hz
theorem dcells_app (a b : List Dl) : dcells (a ++ b) = dcells a ++ dcells b := by simp [dcells]
theorem drow {w : World} {p : Option Addr} {l : List Dl} (h : CellsO w p (dcells l)) {i : Nat} {d : Dl} (hi : l[i]? = some d) : ∃ a, p = some a ∧ CellsAt w (a.add (i * 5)) d.cells :=
  CellsO.row h (fun r hr => by obtain ⟨d, _, rfl⟩ := List.mem_map.1 hr; rfl) (by omega) (by rw [List.getElem?_map, hi]; rfl)
theorem encs_len (l : List Dl) : (l.flatMap encB).length = l.length * 5 := by
  induction l with
  | nil => rfl
  | cons d r ih => rw [List.flatMap_cons, List.length_append, ih, List.length_cons]; show 5 + _ = _; omega
theorem byte_mod (x : Int) : Byte (x % 256) := ⟨Int.emod_nonneg _ (by omega), Int.emod_lt_of_pos _ (by omega)⟩
/-- what a sector is made of -/
def secB (seq num : Int) (l : List Dl) : List Int := Cel.be 4 seq ++ [num % 256, (l.length : Int) % 256] ++ l.flatMap encB
theorem secB_len (seq num : Int) (l : List Dl) : (secB seq num l).length = 6 + l.length * 5 := by
  unfold secB
  rw [List.length_append, List.length_append, Cel.be_length, encs_len]
  rfl
theorem encs_bytes {l : List Dl} (hw : ∀ d ∈ l, d.wf) (hf : ∀ d ∈ l, chk0 d = 0) : Bytes (l.flatMap encB) := by
  intro z hz
  obtain ⟨d, hd, hz⟩ := List.mem_flatMap.1 hz
  exact encB_bytes (fine_of (hw d hd) (hf d hd)) z hz
theorem head_bytes (seq num : Int) (n : Nat) : Bytes (Cel.be 4 seq ++ [num % 256, (n : Int) % 256]) := by
  refine Bytes.append (Cel.be_byte _ _) ?_
  intro z hz
  simp only [List.mem_cons, List.not_mem_nil, or_false] at hz
  rcases hz with rfl | rfl
  · exact byte_mod _
  · exact byte_mod _
theorem secB_bytes {seq num : Int} {l : List Dl} (hw : ∀ d ∈ l, d.wf) (hf : ∀ d ∈ l, chk0 d = 0) : Bytes (secB seq num l) := (head_bytes _ _ _).append (encs_bytes hw hf)

theorem sector_spec (seq num : Int) (p : Option Addr) (n c : Nat) (l : List Dl) (w : World) (hs : 0 ≤ seq ∧ seq < 4294967296) (hc : CellsO w p (dcells l)) (hn : l.length = n) (h6 : n ≤ 6) (hw : ∀ d ∈ l, d.wf) (hf : ∀ d ∈ l, chk0 d = 0) :
    spool_sector.C seq num p n c w (Ret fun v w' => ∃ p' c', v = .tuple #[.slice p' 64 c', .int .i64 0] ∧ Owns w' w.heap.size ty_uint8 1 p' 64 c' (v8 (sealed (secB seq num l))) ∧ Ex w w') := by
  apply spool_sector.ok
  unfold spool_sector.main
  rintro b1 w1 rfl rfl
  have o1 := Owns.new (w := w) [.int .i64 seq] ty_int
  have x1 := Ex.alloc w (.cells [Value.int .i64 seq].toArray ty_int)
  generalize w.alloc (.cells #[.int .i64 seq] ty_int) = w1 at o1 x1 ⊢
  refine callP.use (Cel.Row_spec (some ⟨w.heap.size, 0, none⟩) 1 1 [seq] 4 w1 o1.cells rfl (by omega)) ?_
  rintro _ w2 ⟨p2, n2, c2, rfl, hn2, o2, x2⟩
  try dsimp only [dI_i64, dI_u8, dI_u16, dI_u32, dB_bool, dS_slice, dP_ptr, dT_tup, dA_agg, dStr_str, dF_f, dC_c, dM_m, optP_some, ga0, ga1, ga2, ga3, ga4, cond_true, cond_false, chk_true, Bool.not_true, Bool.not_false, Option.isNone_none, Option.isNone_some, List.toList_toArray]
  have ok4 : [seq].all (Cel.okNum 4) = true := by
    simp only [List.all_cons, List.all_nil, Bool.and_true, Cel.okNum, Bool.and_eq_true, decide_eq_true_eq]
    exact ⟨hs.1, hs.2⟩
  have hrow : Cel.rowB 4 [seq] = Cel.be 4 seq := by
    have := (Cel.row_in (k := 4) (by omega) (by omega) [seq]).2
    rw [if_pos ok4] at this
    have e : ((4 : Nat) : Int) = 4 := rfl
    rw [e] at this
    rw [this]
    simp
  rw [hrow] at o2
  have hl2 : n2 = 4 := by have := own_len (xs := Cel.be 4 seq) o2; rw [Cel.be_length] at this; exact this.symm
  subst hl2
  rintro b3 w3 rfl rfl
  rw [wu8, wu8]
  have o3 := Owns.alloc (w := w2) (v8 [num % 256, (n : Int) % 256]) ty_uint8 1 2 rfl
  have x3 := Ex.alloc w2 (.cells (v8 [num % 256, (n : Int) % 256]).toArray ty_uint8)
  generalize hw3 : w2.alloc (.cells #[.int .u8 (num % 256), .int .u8 ((n : Int) % 256)] ty_uint8) = w3
  have hw3' : w2.alloc (.cells (v8 [num % 256, (n : Int) % 256]).toArray ty_uint8) = w3 := hw3
  rw [hw3'] at o3 x3
  have x13 : Ex w w3 := x1.trans (x2.trans x3)
  refine appP_own (B := w.heap.size) ((o2.lower x1.size).ex x3) x13.size (v8 [num % 256, (n : Int) % 256]) o3.cells rfl (v8_one _) rfl (by omega) (by omega) ?_
  intro p5 c5 w5 o5 k5
  have x5 : Ex w w5 := x13.then k5 fun i ⟨x, e, hi⟩ => by
    have := ((o2.lower x1.size).ge e).1
    omega
  have e5 : v8 (Cel.be 4 seq) ++ v8 [num % 256, (n : Int) % 256] = v8 (Cel.be 4 seq ++ [num % 256, (n : Int) % 256]) := v8_app _ _
  have o5 : Owns w5 w.heap.size ty_uint8 1 p5 (4 + 2) c5 (v8 (Cel.be 4 seq ++ [num % 256, (n : Int) % 256])) := by rw [← e5]; exact o5
  unfold spool_sector.l1
  refine ⟨fun t8p t8n t8c t28p t28n t28c t29 t30 w' => p = t28p ∧ n = t28n ∧ c = t28c ∧ t29 = (n : Int) ∧ 0 ≤ t30 ∧ t30 ≤ n ∧ t8n = 6 + t30.toNat * 5 ∧ Owns w' w.heap.size ty_uint8 1 t8p t8n t8c (v8 (Cel.be 4 seq ++ [num % 256, (n : Int) % 256] ++ (l.take t30.toNat).flatMap encB)) ∧ Ex w w',
    fun t8p t8n t8c t28p t28n t28c t29 t30 w' => (n - t30).toNat, ⟨rfl, rfl, rfl, rfl, by omega, by omega, rfl, by simpa using o5, x5⟩, ?_⟩
  rintro t8p t8n t8c _ _ _ _ t30 w' ⟨rfl, rfl, rfl, rfl, h0, h1, hlen, ho, hx⟩
  unfold spool_sector.b1
  refine cond_of (fun h => ?_) (fun h => ?_)
  · have h := of_decide_eq_true h
    obtain ⟨j, rfl⟩ := Int.eq_ofNat_of_zero_le h0
    have hj : j < l.length := by omega
    obtain ⟨d, hd, hm, hdr⟩ := Bas.getE hj
    refine chk_of (decide_eq_true h0) (chk_of (decide_eq_true h) ?_)
    obtain ⟨a, rfl, hrow⟩ := drow (hc.ex hx) hd
    try dsimp only [dI_i64, dI_u8, dI_u16, dI_u32, dB_bool, dS_slice, dP_ptr, dT_tup, dA_agg, dStr_str, dF_f, dC_c, dM_m, optP_some, ga0, ga1, ga2, ga3, ga4, cond_true, cond_false, chk_true, Bool.not_true, Bool.not_false, Option.isNone_none, Option.isNone_some, List.toList_toArray]
    refine ⟨d.cells.toArray, rfl, hrow, ?_⟩
    rintro b3 w6 rfl rfl
    have o6 := Owns.new (w := w') zcells ty_api_Delta
    have x6 := Ex.alloc w' (.cells zcells.toArray ty_api_Delta)
    unfold zcells at o6 x6
    generalize w'.alloc (.cells #[.int .i64 0, .int .i64 0, .int .i64 0, .int .i64 0, .complex .f64 0 0] ty_api_Delta) = w6 at o6 x6 ⊢
    refine chk_of (by rfl) ?_
    refine o6.put (by rfl) cells_one fun w7 k7 o7 => ?_
    have x7 : Ex w' w7 := x6.then k7 fun i hi => hi ▸ Nat.le_refl _
    refine ⟨d.cells.toArray, rfl, o7.cells, ?_⟩
    refine callP.use (Encode_spec (hw d hm) _) ?_
    rintro _ w8 ⟨p8, c8, rfl, x8, o8⟩
    try dsimp only [dI_i64, dI_u8, dI_u16, dI_u32, dB_bool, dS_slice, dP_ptr, dT_tup, dA_agg, dStr_str, dF_f, dC_c, dM_m, optP_some, ga0, ga1, ga2, ga3, ga4, cond_true, cond_false, chk_true, Bool.not_true, Bool.not_false, Option.isNone_none, Option.isNone_some, List.toList_toArray]
    have hcd := hf d hm
    have hR : encR d = encB d := by unfold encR; rw [if_pos hcd]
    rw [hR] at o8 ⊢
    rw [cond_neg (by simp [hcd])]
    have x78 := x7.trans x8
    refine appP_own (B := w.heap.size) (ho.ex x78) (hx.trans x78).size (v8 (encB d)) o8.cells (by simp [v8]) (v8_one _) rfl (by have : (encB d).length = 5 := rfl; omega) (by have : (encB d).length = 5 := rfl; omega) ?_
    intro p9 c9 w9 o9 k9
    have x9 : Ex w w9 := (hx.trans x78).then k9 fun i ⟨x, e, hi⟩ => by
      have := (ho.ge e).1
      omega
    have et : l.take (j + 1) = l.take j ++ [d] := by
      rw [List.take_add_one, hd]; rfl
    have en : IntKind.i64.wrap ((j : Int) + 1) = ((j + 1 : Nat) : Int) := by rw [w64 (by omega) (by omega)]; rfl
    rw [en]
    have tn : ((j + 1 : Nat) : Int).toNat = j + 1 := rfl
    refine ⟨⟨rfl, rfl, rfl, rfl, by omega, by omega, ?_, ?_, x9⟩, by ((try dsimp only); omega)⟩
    · show t8n + 5 = _
      omega
    · show Owns w9 _ _ _ p9 (t8n + 5) c9 (v8 (_ ++ (l.take (j + 1)).flatMap encB))
      rw [et, List.flatMap_append, ← List.append_assoc, ← v8_app]
      have : [d].flatMap encB = encB d := by simp
      rw [this]
      exact o9
  · have h := of_decide_eq_false h
    have e : t30 = n := by omega
    subst e
    have ef : l.take ((n : Nat) : Int).toNat = l := by rw [Int.toNat_natCast]; exact List.take_of_length_le (by omega)
    rw [ef] at ho
    have eb : Cel.be 4 seq ++ [num % 256, (n : Int) % 256] ++ l.flatMap encB = secB seq num l := by unfold secB; rw [hn]
    rw [eb] at ho
    have hle := secB_len seq num l
    unfold spool_sector.k1
    refine callP.use (Close_spec t8p t8n t8c _ w' ho.cells (by omega) (secB_bytes hw hf)) ?_
    rintro _ w2 ⟨q, m, e, rfl, hm, oq, xq⟩
    try dsimp only [dI_i64, dI_u8, dI_u16, dI_u32, dB_bool, dS_slice, dP_ptr, dT_tup, dA_agg, dStr_str, dF_f, dC_c, dM_m, optP_some, ga0, ga1, ga2, ga3, ga4, cond_true, cond_false, chk_true, Bool.not_true, Bool.not_false, Option.isNone_none, Option.isNone_some, List.toList_toArray]
    have hcl : cloB (secB seq num l) = sealed (secB seq num l) := cloB_le (by omega)
    have he0 : cloE (secB seq num l) = 0 := by unfold cloE; rw [if_neg (by omega)]
    rw [hcl] at oq
    have : m = 64 := by have := own_len oq; rw [sealed_length (by omega)] at this; exact this.symm
    subst this
    rw [he0]
    exact Ret.mk ⟨q, e, rfl, oq.lower hx.size, hx.trans xq⟩

/-! ### What a sector says -/
def dl (xs : List Int) (i : Nat) : Dl := decD ((xs.drop (6 + 5 * i)).take 5)
def dls (xs : List Int) (m : Nat) : List Dl := (List.range m).map (dl xs)
def cnt (xs : List Int) : Int := xs.getD 5 0
def reads (xs : List Int) : Option (List Dl) := if opnE xs = 0 ∧ 1 ≤ cnt xs ∧ cnt xs ≤ 6 ∧ ∀ d ∈ dls xs (cnt xs).toNat, chk0 d = 0 then some (dls xs (cnt xs).toNat) else none
def readP (seq num : Int) (xs : List Int) : Option (List Dl) :=
  match reads xs with
  | some l => if sealed (secB seq num l) = xs then some l else none
  | none => none
theorem dls_wf {xs : List Int} (hb : Bytes xs) (m : Nat) : ∀ d ∈ dls xs m, d.wf := fun d hd => by
  obtain ⟨i, _, rfl⟩ := List.mem_map.1 hd
  exact decD_wf ((hb.drop _).take _)
theorem dls_len (xs : List Int) (m : Nat) : (dls xs m).length = m := by simp [dls]
theorem dls_next (xs : List Int) (m : Nat) : dls xs (m + 1) = dls xs m ++ [dl xs m] := by simp [dls, List.range_succ]
theorem open_ok {xs : List Int} (h : opnE xs = 0) : xs.length = 64 ∧ opnB xs = xs.take 60 := by
  unfold opnE at h
  unfold opnB
  split at h
  · rename_i hl
    rw [if_pos hl]
    split at h
    · rename_i hc
      exact ⟨hl, by rw [if_pos hc]⟩
    · cases h
  · cases h
theorem dl_take {xs : List Int} {i : Nat} (hi : i < 6) : ((xs.take 60).drop (6 + 5 * i)).take 5 = (xs.drop (6 + 5 * i)).take 5 := by
  rw [List.drop_take, List.take_take, Nat.min_eq_left (by omega)]
/-- a part of a list of bytes, by a slice of it -/
theorem part5 {w : World} {p : Option Addr} {c : Nat} {xs : List Int} (h : CellsO w p (v8 xs)) (hc : xs.length ≤ c) (i : Nat) : CellsO w (slA p c i 1) (v8 ((xs.drop i).take 5)) := by
  have := h.slice c i 5 (by rw [v8_len]; exact hc)
  unfold v8 at this ⊢
  rw [List.map_take, List.map_drop]
  exact this
theorem read_spec (p : Option Addr) (c : Nat) (xs : List Int) (seq num : Int) (w : World) (hc : CellsO w p (v8 xs)) (hn : xs.length = 64) (hcap : 64 ≤ c) (hb : Bytes xs) (hs : 0 ≤ seq ∧ seq < 4294967296) :
    spool_read.C p 64 c seq num w (Ret fun v w' => Ex w w' ∧ ∃ q m d, v = .tuple #[.slice q m d, .bool (readP seq num xs).isSome] ∧ ∀ l, readP seq num xs = some l → l.length = m ∧ m ≤ 6 ∧ Owns w' w.heap.size ty_api_Delta 5 q m d (dcells l)) := by
  apply spool_read.ok
  unfold spool_read.main
  refine callP.use (Open_spec p 64 c xs w hc hn hcap hb) ?_
  rintro _ w1 ⟨p1, n1, c1, rfl, hn1, o1, x1⟩
  try dsimp only [dI_i64, dI_u8, dI_u16, dI_u32, dB_bool, dS_slice, dP_ptr, dT_tup, dA_agg, dStr_str, dF_f, dC_c, dM_m, optP_some, ga0, ga1, ga2, ga3, ga4, cond_true, cond_false, chk_true, Bool.not_true, Bool.not_false, Option.isNone_none, Option.isNone_some, List.toList_toArray]
  refine cond_of (fun h => ?_) (fun h => ?_)
  · have h : ¬ opnE xs = 0 := by simpa using h
    have e : reads xs = none := by unfold reads; rw [if_neg (fun c => h c.1)]
    exact Ret.mk ⟨x1, none, 0, 0, by unfold readP; rw [e]; rfl, fun l hl => by unfold readP at hl; rw [e] at hl; cases hl⟩
  have h : opnE xs = 0 := by simpa using h
  obtain ⟨_, hB⟩ := open_ok h
  rw [hB] at o1
  have hn1' : n1 = 60 := by have := own_len o1; rw [List.length_take, hn] at this; exact this.symm
  subst hn1'
  have hcc : 60 ≤ c1 := o1.2.1
  have h5 : (v8 (xs.take 60))[5]? = some (.int .u8 (cnt xs)) := by
    unfold v8 cnt
    rw [List.getElem?_map, List.getElem?_take, if_pos (by omega), List.getD_eq_getElem?_getD, List.getElem?_eq_getElem (by omega)]
    rfl
  obtain ⟨a1, rfl, r5⟩ := o1.cells.many h5
  refine chk_of (by decide) ?_
  try dsimp only [dI_i64, dI_u8, dI_u16, dI_u32, dB_bool, dS_slice, dP_ptr, dT_tup, dA_agg, dStr_str, dF_f, dC_c, dM_m, optP_some, ga0, ga1, ga2, ga3, ga4, cond_true, cond_false, chk_true, Bool.not_true, Bool.not_false, Option.isNone_none, Option.isNone_some, List.toList_toArray]
  refine ⟨cnt xs, r5, ?_⟩
  refine cond_of (fun h1 => ?_) (fun h1 => ?_)
  · have h1 := of_decide_eq_true h1
    have e : reads xs = none := by unfold reads; rw [if_neg (fun c => by omega)]
    exact Ret.mk ⟨x1, none, 0, 0, by unfold readP; rw [e]; rfl, fun l hl => by unfold readP at hl; rw [e] at hl; cases hl⟩
  have h1 := of_decide_eq_false h1
  refine chk_of (by decide) ?_
  refine ⟨cnt xs, r5, ?_⟩
  refine cond_of (fun h2 => ?_) (fun h2 => ?_)
  · have h2 := of_decide_eq_true h2
    have e : reads xs = none := by unfold reads; rw [if_neg (fun c => by omega)]
    exact Ret.mk ⟨x1, none, 0, 0, by unfold readP; rw [e]; rfl, fun l hl => by unfold readP at hl; rw [e] at hl; cases hl⟩
  have h2 := of_decide_eq_false h2
  refine chk_of (by decide) ?_
  refine ⟨cnt xs, r5, ?_⟩
  rw [w64 (x := cnt xs) (by omega) (by omega)]
  obtain ⟨m, hm⟩ := Int.eq_ofNat_of_zero_le (show 0 ≤ cnt xs by omega)
  have hmn : (cnt xs).toNat = m := by omega
  have hB0 := x1.size
  unfold spool_read.l1
  refine ⟨fun t0p t0n t0c t1 t2 t8p t8n t8c t10p t10n t10c t37 t38 w' => p = t0p ∧ t0n = 64 ∧ c = t0c ∧ seq = t1 ∧ num = t2 ∧ t8p = some a1 ∧ t8n = 60 ∧ c1 = t8c ∧ t37 = cnt xs ∧ 0 ≤ t38 ∧ t38 ≤ m ∧ t10n = t38.toNat ∧ (∀ d ∈ dls xs t38.toNat, chk0 d = 0) ∧ Owns w' w.heap.size ty_api_Delta 5 t10p t10n t10c (dcells (dls xs t38.toNat)) ∧ Owns w' w.heap.size ty_uint8 1 (some a1) 60 c1 (v8 (xs.take 60)) ∧ Ex w w',
    fun t0p t0n t0c t1 t2 t8p t8n t8c t10p t10n t10c t37 t38 w' => (m - t38).toNat, ⟨rfl, rfl, rfl, rfl, rfl, rfl, rfl, rfl, rfl, by omega, by omega, rfl, fun d hd => (by cases hd), Owns.nil _ _ _ _, o1, x1⟩, ?_⟩
  rintro _ _ _ _ _ _ _ _ t10p t10n t10c _ t38 w' ⟨rfl, rfl, rfl, rfl, rfl, rfl, rfl, rfl, rfl, h0, hle, hlen, hok, ho, o1, hx⟩
  unfold spool_read.b1
  obtain ⟨j, rfl⟩ := Int.eq_ofNat_of_zero_le h0
  rw [Int.toNat_natCast] at hlen hok ho
  obtain rfl := hlen.symm
  refine cond_of (fun h => ?_) (fun h3 => ?_)
  · have h := of_decide_eq_true h
    have hj : j < 6 := by omega
    have e1 : IntKind.i64.wrap (6 + IntKind.i64.wrap (5 * (j : Int))) = ((6 + 5 * j : Nat) : Int) := by
      rw [w64 (x := 5 * (j : Int)) (by omega) (by omega), w64 (by omega) (by omega)]; omega
    have e2 : IntKind.i64.wrap (((6 + 5 * j : Nat) : Int) + 5) = ((11 + 5 * j : Nat) : Int) := by
      rw [w64 (by omega) (by omega)]; omega
    rw [e1, e2, Int.toNat_natCast, Int.toNat_natCast]
    refine chk_of (decide_eq_true (by omega)) (chk_of (decide_eq_true (by omega)) (chk_of (decide_eq_true (by omega)) (chk_of (decide_eq_true (by omega)) ?_)))
    have hpart := part5 (c := c1) o1.cells (by rw [List.length_take, hn]; omega) (6 + 5 * j)
    rw [dl_take hj] at hpart
    have e5 : 11 + 5 * j - (6 + 5 * j) = 5 := by omega
    rw [e5]
    have hbp : Bytes ((xs.drop (6 + 5 * j)).take 5) := (hb.drop _).take _
    have hl5 : ((xs.drop (6 + 5 * j)).take 5).length = 5 := by rw [List.length_take, List.length_drop, hn]; omega
    refine callP.use (Decode_spec hpart hl5 hbp) ?_
    rintro _ w3 ⟨rfl, x3⟩
    try dsimp only [dI_i64, dI_u8, dI_u16, dI_u32, dB_bool, dS_slice, dP_ptr, dT_tup, dA_agg, dStr_str, dF_f, dC_c, dM_m, optP_some, ga0, ga1, ga2, ga3, ga4, cond_true, cond_false, chk_true, Bool.not_true, Bool.not_false, Option.isNone_none, Option.isNone_some, List.toList_toArray]
    rintro b5 w5 rfl rfl
    have o5 := Owns.new (w := w3) zcells ty_api_Delta
    have x5 := Ex.alloc w3 (.cells zcells.toArray ty_api_Delta)
    unfold zcells at o5 x5
    generalize w3.alloc (.cells #[.int .i64 0, .int .i64 0, .int .i64 0, .int .i64 0, .complex .f64 0 0] ty_api_Delta) = w5 at o5 x5 ⊢
    have hV : (decV ((xs.drop (6 + 5 * j)).take 5)).length = 5 := by unfold decV; split <;> rfl
    have hV1 : ∀ y ∈ decV ((xs.drop (6 + 5 * j)).take 5), y.oneCell' = true := by unfold decV; split; exact dcells_one' _; exact zcells_one
    refine chk_of (decide_eq_true (by rw [List.size_toArray]; exact hV)) ?_
    refine o5.put (cs := decV ((xs.drop (6 + 5 * j)).take 5)) hV hV1 fun w6 k6 o6 => ?_
    have x36 : Ex w3 w6 := x5.then k6 fun i hi => hi ▸ Nat.le_refl _
    have x6 : Ex w' w6 := x3.trans x36
    by_cases hd : chk0 (dl xs j) = 0
    · have hd' : chk0 (decD ((xs.drop (6 + 5 * j)).take 5)) = 0 := hd
      rw [if_pos hd', cond_neg (by rfl)]
      refine ⟨(decV ((xs.drop (6 + 5 * j)).take 5)).toArray, by rw [List.size_toArray]; exact hV, o6.cells, ?_⟩
      have hfill : Instr.fill (fun i => some (i * 5, 5)) (madeCells #[(Value.int .i64 0), (Value.int .i64 0), (Value.int .i64 0), (Value.int .i64 0), (Value.complex .f64 0 0)] (1 * 5)) [(0, (Value.agg (decV ((xs.drop (6 + 5 * j)).take 5)).toArray))] = some (decV ((xs.drop (6 + 5 * j)).take 5)).toArray :=
        fill_whole 5 _ _ (by rw [size_madeCells]) (by rw [List.size_toArray]; exact hV)
      rw [hfill]
      try dsimp only [dI_i64, dI_u8, dI_u16, dI_u32, dB_bool, dS_slice, dP_ptr, dT_tup, dA_agg, dStr_str, dF_f, dC_c, dM_m, optP_some, ga0, ga1, ga2, ga3, ga4, cond_true, cond_false, chk_true, Bool.not_true, Bool.not_false, Option.isNone_none, Option.isNone_some, List.toList_toArray]
      rintro b7 w7 rfl rfl
      have hVc : decV ((xs.drop (6 + 5 * j)).take 5) = (dl xs j).cells := by unfold decV; rw [if_pos hd']; rfl
      rw [hVc]
      have x7 := Ex.alloc w6 (.cells (dl xs j).cells.toArray ty_api_Delta)
      have c7 : CellsO (w6.alloc (.cells (dl xs j).cells.toArray ty_api_Delta)) (some ⟨w6.heap.size, 0, none⟩) (dl xs j).cells := CellsO.alloc _ _
      generalize w6.alloc (.cells (dl xs j).cells.toArray ty_api_Delta) = w7 at x7 c7 ⊢
      have xx := x6.trans x7
      refine appP_own (B := w.heap.size) (ho.ex xx) (hx.trans xx).size (dl xs j).cells c7 rfl (dcells_one' _) rfl (by omega) (by omega) ?_
      intro p9 c9 w9 o9 k9
      have x9 : Ex w w9 := (hx.trans xx).then k9 fun i ⟨x, e, hi⟩ => by
        have := (ho.ge e).1
        omega
      have o1' : Owns w9 w.heap.size ty_uint8 1 (some a1) 60 c1 (v8 (xs.take 60)) :=
        (o1.ex xx).away k9 ty_api_Delta (fun i ⟨x, e, hi⟩ => hi ▸ ((ho.ex xx).typed e).1) (by decide)
      have en : IntKind.i64.wrap ((j : Int) + 1) = ((j + 1 : Nat) : Int) := by rw [w64 (by omega) (by omega)]; rfl
      rw [en]
      have tn : ((j + 1 : Nat) : Int).toNat = j + 1 := rfl
      refine ⟨⟨rfl, rfl, rfl, rfl, rfl, rfl, rfl, rfl, rfl, by omega, by omega, rfl, ?_, ?_, o1', x9⟩, by ((try dsimp only); omega)⟩
      · intro d hdm
        rw [tn, dls_next] at hdm
        rcases List.mem_append.1 hdm with hdm | hdm
        · exact hok d hdm
        · rw [List.mem_singleton.1 hdm]; exact hd
      · rw [tn, dls_next, dcells_app]
        have : dcells [dl xs j] = (dl xs j).cells := by simp [dcells]
        rw [this]
        exact o9
    · have hd' : ¬ chk0 (decD ((xs.drop (6 + 5 * j)).take 5)) = 0 := hd
      rw [if_neg hd', cond_pos (by rfl)]
      have e : reads xs = none := by
        unfold reads
        rw [if_neg (fun c => hd (c.2.2.2 _ (List.mem_map.2 ⟨j, List.mem_range.2 (by omega), rfl⟩)))]
      exact Ret.mk ⟨hx.trans x6, none, 0, 0, by unfold readP; rw [e]; rfl, fun l hl => by unfold readP at hl; rw [e] at hl; cases hl⟩
  · have h3 := of_decide_eq_false h3
    obtain rfl : m = j := by omega
    have e : reads xs = some (dls xs m) := by
      unfold reads
      rw [hmn, if_pos ⟨‹opnE xs = 0›, by omega, by omega, hok⟩]
    unfold spool_read.k1
    refine callP.use (sector_spec seq num t10p m t10c (dls xs m) w' hs ho.cells (dls_len _ _) (by omega) (dls_wf hb _) hok) ?_
    rintro _ w2 ⟨q, d, rfl, o2, x2⟩
    try dsimp only [dI_i64, dI_u8, dI_u16, dI_u32, dB_bool, dS_slice, dP_ptr, dT_tup, dA_agg, dStr_str, dF_f, dC_c, dM_m, optP_some, ga0, ga1, ga2, ga3, ga4, cond_true, cond_false, chk_true, Bool.not_true, Bool.not_false, Option.isNone_none, Option.isNone_some, List.toList_toArray]
    rw [cond_pos (by rfl)]
    have hsl : (secB seq num (dls xs m)).length ≤ 60 := by rw [secB_len, dls_len]; omega
    refine callP.use (Equal_spec q 64 d p 64 c _ xs w2 o2.cells (sealed_length hsl) (hc.ex (hx.trans x2)) hn (seal_bytes (secB_bytes (dls_wf hb _) hok)) hb) ?_
    rintro _ w3 ⟨rfl, x3⟩
    try dsimp only [dI_i64, dI_u8, dI_u16, dI_u32, dB_bool, dS_slice, dP_ptr, dT_tup, dA_agg, dStr_str, dF_f, dC_c, dM_m, optP_some, ga0, ga1, ga2, ga3, ga4, cond_true, cond_false, chk_true, Bool.not_true, Bool.not_false, Option.isNone_none, Option.isNone_some, List.toList_toArray]
    refine Ret.mk ⟨hx.trans (x2.trans x3), t10p, m, t10c, ?_, ?_⟩
    · unfold readP
      rw [e]
      dsimp only
      by_cases hq : sealed (secB seq num (dls xs m)) = xs
      · rw [if_pos hq, decide_eq_true hq]; rfl
      · rw [if_neg hq, decide_eq_false hq]; rfl
    · intro l hl
      unfold readP at hl
      rw [e] at hl
      dsimp only at hl
      split at hl
      · cases hl
        exact ⟨dls_len _ _, by omega, ho.ex (x2.trans x3)⟩
      · cases hl
end Go.Proofs.Ytnbegeghcjldfaa.G
