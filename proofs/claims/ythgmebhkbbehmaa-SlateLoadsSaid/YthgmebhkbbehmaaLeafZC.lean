/-
  Pages are read by leaf if the document reads them, and as the same.
-/
import Derived.Test.YthgmebhkbbehmaaLeafZA
namespace Go.Proofs.Ythgmebhkbbehmaa.G.En
open Go.Dec Go.RowKit
set_option linter.unusedVariables false
set_option linter.unusedSimpArgs false

theorem flat_congr {α β : Type} {l : List α} {f g : α → List β} (h : ∀ x ∈ l, f x = g x) : l.flatMap f = l.flatMap g := by
  induction l with
  | nil => rfl
  | cons a l ih => rw [List.flatMap_cons, List.flatMap_cons, h a (by simp), ih fun x hx => h x (List.mem_cons_of_mem _ hx)]
theorem fld_full {pg : List Int} (h : pg.length = 64) {a s : Int} (h0 : 0 ≤ a) (h1 : 1 ≤ s) (h4 : s ≤ 4) (h60 : a + s ≤ 60) : Cel.getN pg a s = fld pg a s := by
  unfold fld
  have l60 : (pg.take 60).length = 60 := by rw [List.length_take, h]; rfl
  rw [(Cel.get_in h1 h4 (n := pg.length) rfl h0 (by omega)).1, (Cel.get_in h1 h4 (n := (pg.take 60).length) rfl h0 (by omega)).1, List.drop_take, List.take_take]
  congr 2
  omega
theorem heads {pgs : List (List Int)} (h : 1 ≤ pgs.length) : pgs = hd0 pgs :: pgs.tail := by
  cases pgs with
  | nil => simp at h
  | cons a l => rfl
theorem pad_take {x : List Int} (h : x.length ≤ 60) (n m : Nat) (hnm : n + m ≤ x.length) : (((sealed x).take 60).drop n).take m = (x.drop n).take m := by
  rw [sealed_take h]
  unfold pad
  rw [List.drop_append_of_le_length (by omega), List.take_append_of_le_length (by rw [List.length_drop]; omega)]
theorem be4_cases (q : Int) : ∃ a b c d, Cel.be 4 q = [a, b, c, d] := by
  have h := Cel.be_length 4 q
  match hb : Cel.be 4 q with
  | [a, b, c, d] => exact ⟨a, b, c, d, rfl⟩
  | [] => rw [hb] at h; simp at h
  | [_] => rw [hb] at h; simp at h
  | [_, _] => rw [hb] at h; simp at h
  | [_, _, _] => rw [hb] at h; simp at h
  | _ :: _ :: _ :: _ :: _ :: _ => rw [hb] at h; simp at h
theorem hd_magic (H : Hd) (t : List Int) : ((hdP H t).take 60).take 4 = slat := by
  have h1 := hdT_len H t
  have := pad_take (x := hdT H t) (by omega) 0 4 (by omega)
  rw [List.drop_zero, List.drop_zero] at this
  unfold hdP
  rw [this]
  rfl
theorem hd_cnt (H : Hd) (t : List Int) : fld (hdP H t) 10 1 = (H.m : Int) := by
  have h1 := hdT_len H t
  have h60 : ((hdP H t).take 60).length = 60 := by unfold hdP; rw [List.length_take, sealed_length (by omega)]; rfl
  unfold fld
  rw [(Cel.get_in (by omega) (by omega) (n := ((hdP H t).take 60).length) rfl (by omega) (by omega)).1]
  have := pad_take (x := hdT H t) (by omega) 10 1 (by omega)
  unfold hdP
  have e10 : (10 : Int).toNat = 10 := rfl
  have e1 : (1 : Int).toNat = 1 := rfl
  rw [e10, e1, this]
  obtain ⟨a, b, c, d, hq⟩ := be4_cases H.q
  unfold hdT hd3 hd2 hd1
  rw [hq]
  simp [slat, Cel.num]
theorem lf_said {q : Int} {i : Nat} {part : List Int} (h : part.length ≤ 52) : said (lfP q i part) = part.length ∧ partOf (lfP q i part) = part := by
  have hl := lfT_len q i part
  obtain ⟨a, b, c, d, hq⟩ := be4_cases q
  have hsaid : said (lfP q i part) = part.length := by
    have := pad_take (x := lfT q i part) (by omega) 5 1 (by omega)
    have g := congrArg (fun l => l[0]?) this
    simp only [List.getElem?_take, List.getElem?_drop] at g
    unfold said lfP
    have e : (sealed (lfT q i part)).take 60 = pad (lfT q i part) := sealed_take (by omega)
    rw [e]
    unfold pad
    rw [List.getElem?_append_left (by omega)]
    unfold lfT
    rw [hq]
    simp
  refine ⟨hsaid, ?_⟩
  unfold partOf
  rw [hsaid, Int.toNat_natCast]
  unfold lfP
  rw [pad_take (by omega) 6 part.length (by omega)]
  unfold lfT
  rw [hq]
  simp
theorem chunks {t : List Int} : ∀ m, (List.range m).flatMap (chunk t) = t.take (52 * m)
  | 0 => by simp
  | m + 1 => by
    rw [List.range_succ, List.flatMap_append, chunks m]
    have e : 52 * (m + 1) = 52 * m + 52 := by omega
    rw [e, List.take_add]
    congr 1
    simp only [List.flatMap_cons, List.flatMap_nil, List.append_nil]
    unfold chunk clen
    by_cases h : 52 ≤ t.length - 52 * m
    · rw [Nat.min_eq_left h]
    · rw [Nat.min_eq_right (by omega), List.take_of_length_le (by rw [List.length_drop]; exact Nat.le_refl _), List.take_of_length_le (by rw [List.length_drop]; omega)]
theorem chunk_le (t : List Int) (j : Nat) : (chunk t j).length ≤ 52 := by
  rw [chunk_len]
  unfold clen
  omega
theorem lv_parts (q : Int) (t : List Int) : ∀ m, (lv q t (List.range m)).flatMap partOf = (List.range m).flatMap (chunk t)
  | 0 => rfl
  | m + 1 => by
    rw [List.range_succ, lv_snoc, List.flatMap_append, List.flatMap_append, lv_parts q t m]
    congr 1
    simp only [List.flatMap_cons, List.flatMap_nil, List.append_nil]
    exact (lf_said (chunk_le t m)).2
theorem lv_text (q : Int) (t : List Int) : (lv q t (List.range (cnt t.length))).flatMap partOf = t := by
  rw [lv_parts, chunks, List.take_of_length_le]
  unfold cnt
  omega
theorem lv_said {q : Int} {t : List Int} {xs : List Nat} : ∀ pg ∈ lv q t xs, said pg ≤ 52 := fun pg h => by
  unfold lv at h
  obtain ⟨i, hi, rfl⟩ := List.mem_mapIdx.1 h
  have h := chunk_le t xs[i]
  rw [(lf_said h).1]
  omega
theorem txt_same {pgs : List (List Int)} (h : ∀ pg ∈ pgs.tail, said pg ≤ 52) : txt2 pgs = txt pgs := by
  unfold txt2 txt
  refine flat_congr fun pg hp => ?_
  unfold part2
  rw [if_pos (h pg hp)]
theorem said_same {pgs : List (List Int)} (h : (hd0 pgs).length = 64) : s2 pgs = sO pgs ∧ k2 pgs = kO pgs ∧ q2 pgs = qO pgs :=
  ⟨fld_full h (by omega) (by omega) (by omega) (by omega), fld_full h (by omega) (by omega) (by omega) (by omega), fld_full h (by omega) (by omega) (by omega) (by omega)⟩
theorem Good.two {pgs : List (List Int)} (g : Good pgs) : Good2 pgs ∧ s2 pgs = sO pgs ∧ k2 pgs = kO pgs ∧ q2 pgs = qO pgs ∧ st2 pgs = stO pgs := by
  obtain ⟨hseq, hM⟩ := hdrOk_seq g.hdr
  have h64 := (open_ok hM.1).1
  obtain ⟨e1, e2, e3⟩ := said_same h64
  have hl : ∀ pg ∈ pgs.tail, opnE pg = 0 ∧ said pg ≤ 52 := fun pg h => by
    have := g.leaves pg h
    unfold leafOk at this
    simpa using this
  have et : txt2 pgs = txt pgs := txt_same fun pg h => (hl pg h).2
  have es : st2 pgs = stO pgs := by unfold st2 stO; rw [e2, et]
  refine ⟨⟨?_, g.n12, fun pg h => ?_, ?_, ?_, ?_⟩, e1, e2, e3, es⟩
  · have hlen := congrArg List.length g.same
    rw [hd_len] at hlen
    have := pay_ge (R := stO pgs) (rdR_len _ _ 8) (kO pgs)
    unfold En.cnt at hlen
    omega
  · rw [heads g.n1] at h
    rcases List.mem_cons.1 h with rfl | h
    · exact hM.1
    · exact (hl pg h).1
  · rw [e3]; exact hseq
  · rw [e1, e2, es]; exact g.fit
  · rw [e1, e2, e3, es]; exact g.same
theorem Good2.one {pgs : List (List Int)} (hb : ∀ pg ∈ pgs, Bytes pg) (g : Good2 pgs) : Good pgs := by
  have n1 : 1 ≤ pgs.length := by have := g.n2; omega
  have hmem : hd0 pgs ∈ pgs := by
    have h : hd0 pgs ∈ hd0 pgs :: pgs.tail := List.mem_cons_self ..
    rwa [← heads n1] at h
  have h64 := (open_ok (g.opens _ hmem)).1
  obtain ⟨e1, e2, e3⟩ := said_same h64
  have hbT : Bytes (txt2 pgs) := by
    have := T2_bytes hb pgs.length
    rwa [T2_all n1] at this
  have ho : ∀ e ∈ st2 pgs, okEnt e := rdR_ok hbT 8
  have h8 : (st2 pgs).length = 8 := rdR_len _ _ 8
  obtain ⟨r1, r2⟩ := rd_back g.fit ho h8
  have hs := g.same
  have hfit := g.fit
  generalize ht : pay (k2 pgs) (st2 pgs) = t at hs r1 r2
  have hs' : hdP (hdOf (s2 pgs) (k2 pgs) (q2 pgs) t) t :: lv (q2 pgs) t (List.range (cnt t.length)) = hd0 pgs :: pgs.tail := by
    rw [← heads n1]
    exact hs
  have hh : hdP (hdOf (s2 pgs) (k2 pgs) (q2 pgs) t) t = hd0 pgs := List.head_eq_of_cons_eq hs'
  have hlt : lv (q2 pgs) t (List.range (cnt t.length)) = pgs.tail := List.tail_eq_of_cons_eq hs'
  have hsaid : ∀ pg ∈ pgs.tail, said pg ≤ 52 := by rw [← hlt]; exact lv_said
  have et : txt pgs = t := by unfold txt; rw [← hlt]; exact lv_text _ _
  have hcnt : fld (hd0 pgs) 10 1 = (cnt t.length : Int) := by rw [← hh]; exact hd_cnt _ _
  have hlen : pgs.length = 1 + cnt t.length := by
    have := congrArg List.length hs
    rw [hd_len] at this
    exact this.symm
  have hn12 := g.n12
  have est : stO pgs = st2 pgs := by unfold stO; rw [et, ← e2]; exact r2
  refine ⟨n1, g.n12, ?_, by rw [hcnt, hlen]; omega, fun pg h => ?_, by rw [et, ← e2]; exact r1, by rw [← e1, ← e2, est]; exact g.fit, by rw [← e1, ← e2, ← e3, est]; exact g.same⟩
  · have hM : hasMagic (hd0 pgs) := ⟨g.opens _ hmem, by rw [← hh]; exact hd_magic _ _⟩
    have hq := g.seq
    rw [e3] at hq
    unfold hdrOk
    rw [decide_eq_true hM, decide_eq_true (show 1 ≤ fld (hd0 pgs) 4 4 from hq.1), decide_eq_true (show fld (hd0 pgs) 4 4 ≤ 1073741824 from hq.2), decide_eq_true (show fld (hd0 pgs) 10 1 < 12 by rw [hcnt]; omega)]
    rfl
  · unfold leafOk
    rw [decide_eq_true (g.opens pg (List.mem_of_mem_tail h)), decide_eq_true (hsaid pg h)]
    rfl
end Go.Proofs.Ythgmebhkbbehmaa.G.En
