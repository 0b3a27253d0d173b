import Derived.Test.YtokhmpchgkmbeaaQAx5
import Derived.Test.YtokhmpchgkmbeaaQAx6
import Derived.Test.YtokhmpchgkmbeaaQAx7
import Derived.Test.YtokhmpchgkmbeaaGFirst
import Derived.KernelRfl
import Derived.Test.YtokhmpchgkmbeaaPKmpBorders
import Derived.Test.YtokhmpchgkmbeaaQAx9
namespace Go.Proofs.Ytokhmpchgkmbeaa.QA
open Go.RowKit Go.Proofs.YtokhmpchgkmbeaaW.PrintWords
set_option linter.unusedVariables false
set_option linter.unusedSimpArgs false
/-! ### KmpJoins -/
theorem stands_append (text p q : List Int) (i : Nat) : stands text (p ++ q) i = (stands text p i && stands text q (i + p.length)) := by
  unfold stands
  rw [List.length_append, List.take_add, List.drop_drop, Bool.eq_iff_iff, Bool.and_eq_true, beq_iff_eq, beq_iff_eq, beq_iff_eq]
  constructor
  · intro h
    by_cases hl : p.length ≤ (text.drop i).length
    · exact List.append_inj h (by rw [List.length_take]; omega)
    · have h1 : (text.drop i).length < p.length := by omega
      have := congrArg List.length h
      rw [List.length_append, List.length_append, List.length_take, List.length_take, List.length_drop, List.length_drop] at this
      rw [List.length_drop] at h1
      omega
  · rintro ⟨h1, h2⟩
    rw [h1, h2]
theorem mem_places {text p : List Int} {x : Int} : x ∈ places text p ↔ ∃ i : Nat, x = (i : Int) ∧ i ≤ text.length ∧ stands text p i = true := by
  unfold places
  rw [List.mem_map]
  constructor
  · rintro ⟨i, hi, rfl⟩
    rw [List.mem_filter, List.mem_range] at hi
    exact ⟨i, rfl, by omega, hi.2⟩
  · rintro ⟨i, rfl, h1, h2⟩
    exact ⟨i, List.mem_filter.2 ⟨List.mem_range.2 (by omega), h2⟩, rfl⟩
theorem places_nodup (text p : List Int) : (places text p).Nodup := by
  unfold places
  refine List.pairwise_map.2 (((List.nodup_range).filter _).imp ?_)
  intro a b h e
  exact h (Int.ofNat_inj.1 e)
theorem places_append (text p q : List Int) : places text (p ++ q) = (places text p).filter fun i => (places text q).contains (i + (p.length : Int)) := by
  unfold places
  rw [List.filter_map, List.filter_filter]
  refine congrArg _ (List.filter_congr fun i hi => ?_)
  rw [List.mem_range] at hi
  rw [stands_append, Bool.and_comm, Bool.eq_iff_iff, Bool.and_eq_true, Bool.and_eq_true]
  refine and_congr_left fun hs => ?_
  have hle := stands_le hs (by omega)
  show _ ↔ (places text q).contains ((i : Int) + (p.length : Int)) = true
  rw [List.contains_iff_mem, mem_places]
  constructor
  · intro h
    exact ⟨i + p.length, by omega, hle, h⟩
  · rintro ⟨j, h1, h2, h3⟩
    rw [show i + p.length = j by omega]
    exact h3
theorem kj_l1 (t p q : List Int) (x7 sec plc : List Int) (x : Int) (j : Nat) (hx0 : 0 ≤ x) (hx1 : x ≤ 1000000) (hp : p.length ≤ 100) (hsec : sec.length ≤ 1000) (h7 : x7.length + sec.length ≤ 1000000) (N : Nat)
    (hnext : ∀ k ys, N ≤ k → ys = x7 ++ (sec.filter fun s => s == x + (p.length : Int)).map (fun _ => x) → cuecardlaw08_KmpJoins.l0 k t p q ys sec plc (plc.length : Int) ((j + 1 : Nat) : Int) = some true) (hj : j ≤ 1000) :
    ∀ d i k : Nat, ∀ ys, i + d = sec.length → ys = x7 ++ ((sec.take i).filter fun s => s == x + (p.length : Int)).map (fun _ => x) → N + d + 1 ≤ k → cuecardlaw08_KmpJoins.l1 k t p q ys sec x plc (plc.length : Int) (j : Int) sec (sec.length : Int) (i : Int) = some true := by
  have hw : wrap64 (x + (p.length : Int)) = x + (p.length : Int) := wrapId (by omega)
  intro d
  induction d with
  | zero =>
    intro i k ys hi hy hk
    obtain ⟨k, rfl⟩ : ∃ k', k = k' + 1 := ⟨k - 1, by omega⟩
    rw [List.take_of_length_le (by omega)] at hy
    rw [cuecardlaw08_KmpJoins.l1, if_neg (by omega), wr1 (by omega)]
    exact hnext k ys (by omega) hy
  | succ d ih =>
    intro i k ys hi hy hk
    obtain ⟨k, rfl⟩ : ∃ k', k = k' + 1 := ⟨k - 1, by omega⟩
    have hlt : i < sec.length := by omega
    have hyl : ys.length < 17592186044416 := by
      rw [hy, List.length_append, List.length_map]
      have := List.length_filter_le (fun s => s == x + (p.length : Int)) (sec.take i)
      rw [List.length_take] at this
      omega
    rw [cuecardlaw08_KmpJoins.l1, if_pos (by omega), if_pos (by omega), if_pos (by omega), rdN hlt, hw, wr1 (by omega)]
    by_cases h : sec[i] = x + (p.length : Int)
    · rw [if_pos h, if_pos hyl]
      refine ih (i + 1) k _ (by omega) ?_ (by omega)
      rw [hy, List.take_succ_eq_append_getElem hlt, List.filter_append, List.map_append, List.append_assoc, List.filter_cons_of_pos (by simpa using h)]
      simp
    · rw [if_neg h]
      refine ih (i + 1) k _ (by omega) ?_ (by omega)
      rw [hy, List.take_succ_eq_append_getElem hlt, List.filter_append, List.map_append, List.filter_cons_of_neg (by simpa using h)]
      simp
theorem filter_one {sec : List Int} (hn : sec.Nodup) (y x : Int) : (sec.filter fun s => s == y).map (fun _ => x) = if sec.contains y then [x] else [] := by
  induction sec with
  | nil => rfl
  | cons a r ih =>
    have hn2 := List.nodup_cons.1 hn
    have ih := ih hn2.2
    by_cases h : a = y
    · subst h
      have hc : r.contains a = false := by
        rw [Bool.eq_false_iff]
        intro h
        exact hn2.1 (List.contains_iff_mem.1 h)
      rw [hc] at ih
      rw [List.filter_cons_of_pos (by simp), List.map_cons, ih]
      simp
    · rw [List.filter_cons_of_neg (by simpa using h), ih, List.contains_cons, beq_eq_false_iff_ne.2 (fun e => h e.symm), Bool.false_or]
theorem kj_l0 (t p q sec plc : List Int) (ht : t.length ≤ 100) (hp : p.length ≤ 100) (hq : q.length ≤ 100) (hsec : sec = places t q) (hplc : plc = places t p) (hs1 : sec.length ≤ 101) (hp1 : plc.length ≤ 101) (hpx : ∀ x ∈ plc, 0 ≤ x ∧ x ≤ 1000000) :
    ∀ d j k : Nat, ∀ ys, j + d = plc.length → ys = (plc.take j).filter (fun i => sec.contains (i + (p.length : Int))) → 120 * d + 300 ≤ k → cuecardlaw08_KmpJoins.l0 k t p q ys sec plc (plc.length : Int) (j : Int) = some true := by
  intro d
  induction d with
  | zero =>
    intro j k ys hj hy hk
    obtain ⟨k, rfl⟩ : ∃ k', k = k' + 1 := ⟨k - 1, by omega⟩
    rw [List.take_of_length_le (by omega)] at hy
    have hfin : ys = places t (p ++ q) := by rw [hy, places_append, hplc, hsec]
    have hyl : (places t (p ++ q)).length ≤ 4294967296 := by
      rw [← hfin, hy]
      have := List.length_filter_le (fun i => sec.contains (i + (p.length : Int))) plc
      omega
    have hyl2 : (places t (p ++ q)).length + 1 ≤ k := by
      rw [← hfin, hy]
      have := List.length_filter_le (fun i => sec.contains (i + (p.length : Int))) plc
      omega
    rw [cuecardlaw08_KmpJoins.l0, if_neg (by omega)]
    simp only [Option.bind_some, List.nil_append]
    rw [if_pos (by simp; omega), if_pos (by omega)]
    have ha : cuecardlaw08_all.f k t (p ++ q) = some (places t (p ++ q)) := by
      unfold cuecardlaw08_all.f
      rw [if_pos ⟨by omega, by rw [List.length_append]; omega⟩]
    rw [ha, Option.bind_some, same_f hyl hyl2, Option.bind_some, hfin]
    simp
  | succ d ih =>
    intro j k ys hj hy hk
    obtain ⟨k, rfl⟩ : ∃ k', k = k' + 1 := ⟨k - 1, by omega⟩
    have hlt : j < plc.length := by omega
    have hx := hpx _ (List.getElem_mem hlt)
    have hyl : ys.length ≤ 101 := by
      rw [hy]
      have := List.length_filter_le (fun i => sec.contains (i + (p.length : Int))) (plc.take j)
      rw [List.length_take] at this
      omega
    rw [cuecardlaw08_KmpJoins.l0, if_pos (by omega), if_pos (by omega), if_pos (by omega), rdN hlt]
    refine kj_l1 t p q ys sec plc plc[j] j hx.1 hx.2 hp (by omega) (by omega) (120 * d + 300) (fun k zs hk hz => ih (j + 1) k zs (by omega) ?_ hk) (by omega) sec.length 0 k ys (by omega) (by simp) (by omega)
    rw [hz, hy, filter_one (by rw [hsec]; exact places_nodup _ _), List.take_succ_eq_append_getElem hlt, List.filter_append]
    congr 1
    by_cases h : sec.contains (plc[j] + (p.length : Int)) = true
    · rw [if_pos h]; exact (List.filter_cons_of_pos (p := fun i => sec.contains (i + (p.length : Int))) (l := []) h).symm
    · rw [if_neg h]; exact (List.filter_cons_of_neg (p := fun i => sec.contains (i + (p.length : Int))) (l := []) h).symm
theorem KmpJoins (t p q : List Int) : ∃ k, cuecardlaw08_KmpJoins.f k t p q = some true := by
  refine ⟨20001, ?_⟩
  unfold cuecardlaw08_KmpJoins.f
  rw [alive_f (by omega), Option.bind_some, if_pos rfl]
  obtain ⟨b, hg, hb⟩ := great_f [t, p, q] (by simp) (k := 20001) (by simp)
  rw [hg, Option.bind_some, cuecardlaw08_KmpJoins.j0]
  cases b with
  | true => rw [if_pos rfl, alive_f (by omega), Option.bind_some]
  | false =>
    have ht := hb rfl t (by simp)
    have hp := hb rfl p (by simp)
    have hq := hb rfl q (by simp)
    have hall : ∀ r : List Int, r.length ≤ 100 → cuecardlaw08_all.f 20000 t r = some (places t r) := fun r hr => by
      unfold cuecardlaw08_all.f
      rw [if_pos ⟨by omega, by omega⟩]
    have hlen : ∀ r : List Int, (places t r).length ≤ 101 := fun r => by
      unfold places
      rw [List.length_map]
      have := List.length_filter_le (stands t r) (List.range (t.length + 1))
      rw [List.length_range] at this
      omega
    have h1 := hlen p
    have h2 := hlen q
    rw [if_neg (by decide), hall q hq, Option.bind_some, hall p hp, Option.bind_some]
    refine kj_l0 t p q _ _ ht hp hq rfl rfl h2 h1 (fun x hx => ?_) (places t p).length 0 20000 [] (by omega) (by simp) (by omega)
    obtain ⟨i, rfl, hi, _⟩ := mem_places.1 hx
    omega
end Go.Proofs.Ytokhmpchgkmbeaa.QA
