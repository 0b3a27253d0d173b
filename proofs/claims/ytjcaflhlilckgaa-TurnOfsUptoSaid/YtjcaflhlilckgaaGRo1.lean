import Derived.RangeFuncNested
import Derived.RangeFuncBound
import Derived.RangeFuncCalls
import Derived.RangeFuncLeaves
import Derived.Shelf.Abstract
import Derived.Shelf.RegionOpen
import Derived.WalkKit
import Derived.OwnWalkIn
import Derived.TacticsInMore
import Derived.LoopNIn
import Derived.LoopIn
import Derived.Maps.AppendAt
import Derived.StillTailTactics
import Derived.Lib.Hide
import Derived.Lib.LazyBuf
import Derived.Outline
import Derived.Deep.RegionWith
import Derived.Deep.RegionLaw
import Derived.Deep.AppendLies
import Derived.CallsIn

import Derived.Lib.Bytes
import Derived.Deep.DeepCutAuto
import Derived.Lib.SmallJoins
import Derived.Laws.EntriesVeiled
import Derived.Deep.RegionHeld3
import Derived.BigRegion
import Derived.BigQuiet
import Derived.Test.YtjcaflhlilckgaaPShape
import Derived.Test.YtjcaflhlilckgaaGOf
import Derived.Test.YtjcaflhlilckgaaGRo0
import Derived.Test.YtjcaflhlilckgaaPRi
namespace Go.Proofs.Ytjcaflhlilckgaa.QA
open Go.RowKit Go.Shelf Go.Proofs.YtjcaflhlilckgaaW.PrintWords Go.Proofs.YtjcaflhlilckgaaW.PrintLast Go.Proofs.YtjcaflhlilckgaaW.PrintMore
attribute [local go_sem] max2_int min2_int max_two min_two max_three min_three max_four min_four   -- for this text's walks alone
set_option linter.unusedVariables false
set_option linter.unusedSimpArgs false
/-! ### cuecardref10.Of -/
theorem step_append_run3 {P : Program} {ops : Array Oper} {o : Oper} {a : Act} {W : World} {Kc : Act → World → Prop} {Q : Exit → Act → World → Prop} (hw : Region.wanted o (yielded ops a.tmps) = true) (s x : Operand) (t : TypeId)
    (ho : o.op = .call { callee := .builtin .append, args := #[s, x], argTypes := #[t, t] }) (vs vx : Value) (hs : a.eval s = vs) (hx : a.eval x = vx) (v1 : Value) (w1 : World) (hr : (Builtin.append_ #[t, t] o.type #[vs, vx]).run P W = .ok v1 w1)
    (h : Kc (a.put o.dst v1) w1) : if Region.wanted o (yielded ops a.tmps) = true then Oper.wp P o a W Kc Q else Kc (a.put o.dst undef) W := by
  rw [if_pos hw]
  unfold Oper.wp execOp
  simp only [ho, resolve, invoke, builtin, Sem.run_bind, Sem.run_pure, Result.andThen_ok, List.map_toArray, List.map_cons, List.map_nil, hs, hx, hr]
  exact h
/-- an append whose run is known, in a region that does not draw -/
theorem list_append_run3 {P : Program} {ops : Array Oper} {rest : List Oper} {o : Oper} {a : Act} {W : World} {Q : Exit → Act → World → Prop} (hg : o.guard = none) (s x : Operand) (t : TypeId)
    (ho : o.op = .call { callee := .builtin .append, args := #[s, x], argTypes := #[t, t] }) (vs vx : Value) (hs : a.eval s = vs) (hx : a.eval x = vx) (v1 : Value) (w1 : World) (hr : (Builtin.append_ #[t, t] o.type #[vs, vx]).run P W = .ok v1 w1)
    (h : wpList P ops Q rest (a.put o.dst v1) w1) : wpList P ops Q (o :: rest) a W := by
  refine wpList_plain hg fun K hK => ?_
  unfold Oper.wp execOp
  simp only [ho, resolve, invoke, builtin, Sem.run_bind, Sem.run_pure, Result.andThen_ok, List.map_toArray, List.map_cons, List.map_nil, hs, hx, hr]
  exact hK _ _ h
/-- where the last turn of the row lies -/
theorem Tw.last {w : World} {base : Nat} {v : Value} {L : List TI} {t : S33} {vo vi : Value} (h : Tw w base v (L ++ [(t, vo, vi)])) :
    ∃ g c, v = .slice (some ⟨g, 0, none⟩) (L.length + 1) c ∧ w.cell? ⟨g, L.length * 2, none⟩ = some vo ∧ w.cell? ⟨g, L.length * 2 + 1, none⟩ = some vi ∧ base ≤ g ∧ g < w.heap.size := by
  have hl : (L ++ [(t, vo, vi)]).length = L.length + 1 := by simp
  have hf : flat (L ++ [(t, vo, vi)]) = flat L ++ [vo, vi] := by rw [flat_append, flat_one]
  have h1 := h.1
  rw [hl, hf] at h1
  rcases h1.2 with ⟨_, h0⟩ | ⟨g, cap, cur, rfl, hb, hg, _⟩
  · omega
  · refine ⟨g, cap, rfl, ?_, ?_, hb, (Array.getElem?_eq_some_iff.1 hg).1⟩
    · rw [h1.cellAt _ (by omega), List.getElem?_append_right (by rw [flat_len]; omega), flat_len, Nat.sub_self]
      rfl
    · rw [h1.cellAt _ (by omega), List.getElem?_append_right (by rw [flat_len]; omega), flat_len, show L.length * 2 + 1 - L.length * 2 = 1 by omega]
      rfl
theorem below_step2 {w W w2 : World} {base : Nat} (h : Below base w W) (k : Below base W w2) : Below base w w2 := h.trans k
def Bd (its : List TI) (N : Nat) : Prop := its.length ≤ N ∧ ∀ i ∈ its, i.1.f0.length ≤ N ∧ i.1.f1.length ≤ N
theorem Bd.mono {its : List TI} {N M : Nat} (h : Bd its N) (hl : N ≤ M) : Bd its M := ⟨Nat.le_trans h.1 hl, fun i hi => ⟨Nat.le_trans (h.2 i hi).1 hl, Nat.le_trans (h.2 i hi).2 hl⟩⟩
/-- what the document's state is, the bytes of an event being under way -/
def sAt (l : List S37) (i : Nat) (y : S37) (k : Nat) : (List S33 × S33) × Option Int :=
  if y.f0 = 0 ∨ y.f0 = 1 then dst ((dirs (l.take i)).foldl dst st0) ⟨y.f0, 0, y.f2.take k⟩ else (dirs (l.take i)).foldl dst st0
theorem sAt_zero (l : List S37) (i : Nat) (y : S37) : sAt l i y 0 = (dirs (l.take i)).foldl dst st0 := by
  unfold sAt
  rw [List.take_zero, dst_none, ite_self]
theorem sAt_end {l : List S37} {i : Nat} (h : i < l.length) : sAt l i l[i] l[i].f2.length = (dirs (l.take (i + 1))).foldl dst st0 := by
  unfold sAt
  rw [List.take_length, dirs_step h]
theorem sAt_byte (l : List S37) (i : Nat) (y : S37) {k : Nat} (hk : k < y.f2.length) (hd : y.f0 = 0 ∨ y.f0 = 1) : sAt l i y (k + 1) = dst (sAt l i y k) ⟨y.f0, 0, [y.f2[k]]⟩ := by
  unfold sAt
  rw [if_pos hd, if_pos hd, dst_byte _ _ _ hk]
theorem sAt_other (l : List S37) (i : Nat) (y : S37) (k : Nat) (hd : ¬ (y.f0 = 0 ∨ y.f0 = 1)) : sAt l i y (k + 1) = sAt l i y k := by
  unfold sAt
  rw [if_neg hd, if_neg hd]
set_option maxRecDepth 100000 in
set_option maxHeartbeats 8000000 in
theorem refOf_c (l : List S37) (hs : small l) (A : Option Addr) (cl : Nat) (W : World) (hC : Kd.C k37 W A l.length l) (hc : l.length ≤ cl) :
    Calls Try.prog 10 #[.slice A l.length cl] W fun e W' => ∃ v, e = .returned v ∧ Kd.R k33 33 W' W.heap.size (fun _ => True) v (trn l) ∧ Below W.heap.size W W' := by
  have hst := small_tot hs
  have HS := Lib.hid hst
  have hll : l.length ≤ 1048576 := by omega
  have HC := Lib.hid hC
  clear hst hs hC
  go_enter Try.func10, Try.ntmps10
  go_wp2_with (fail)
  go_loopw [3, 4, 5] (fun so sl si wr => ∃ (i : Nat) (its : List TI) (last : Int), i ≤ l.length ∧ si = .int .i64 i ∧ sl = .int .i64 last ∧ Tw wr W.heap.size so its ∧ RI ((dirs (l.take i)).foldl dst st0) (its.map (·.1)) last ∧ Bd its (tot (l.take i)) ∧ Below W.heap.size W wr)
    (fun _ _ si _ => l.length - (intOf si).toNat)
  case atStart => exact ⟨0, [], 1, Nat.zero_le _, rfl, rfl, Tw.nil _ _, .inl ⟨rfl, rfl, rfl⟩, ⟨Nat.zero_le _, fun i h => absurd h (List.not_mem_nil)⟩, Below.refl _ _⟩
  case round =>
    obtain ⟨i, its, last, hi, rfl, rfl, hT, hI, hB, hBr⟩ := hrel
    by_cases hlt : i < l.length
    · have hlt' := eq_true hlt
      obtain ⟨ad, A2, c2, hAe, hx0, hx1, hx2, hl2, hC2⟩ := at_T37 HC.out (i : Int) (by omega) (by omega)
      subst hAe
      rw [Int.toNat_natCast] at hx0 hx1 hx2
      have hy := rdT l i hlt
      have hte : tot (l.take (i + 1)) = tot (l.take i) + (rd_T37 l (i : Int)).f2.length := by rw [hy, List.take_succ_eq_append_getElem hlt, tot_append, tot_one]
      have htl : tot (l.take (i + 1)) ≤ tot l := by
        have e : tot l = tot (l.take (i + 1)) + tot (l.drop (i + 1)) := by rw [← tot_append, List.take_append_drop]
        omega
      have hse := sAt_end hlt
      rw [← hy] at hse
      clear hy hx1
      generalize rd_T37 l (i : Int) = y at hx0 hx2 hl2 hC2 hte hse
      obtain ⟨N, hN⟩ : ∃ N, N = tot (l.take i) := ⟨_, rfl⟩
      rw [← hN] at hte hB
      rw [hte] at htl
      have HTE := Lib.hid hte
      have HSE := Lib.hid hse
      have HC2 := Lib.hid hC2
      have HX0 := Lib.hid hx0
      have HX2 := Lib.hid hx2
      have hN2 : N + y.f2.length ≤ 1048576 := by have := HS.out; omega
      rw [← sAt_zero l i y] at hI
      clear hte hse hC2 htl hN
      replace hx2 := pw_cell_below hBr hx2
      replace hx0 := pw_cell_below hBr hx0
      have HT := Lib.hid hT
      have HI := Lib.hid hI
      have HBd := Lib.hid hB
      have HBr := Lib.hid hBr
      clear hT hI hB hBr
      go_wp2_with (fail)
      go_loopw [3, 4, 6] (fun so sl sk wr => ∃ (k : Nat) (its : List TI) (last : Int), k ≤ y.f2.length ∧ sk = .int .i64 k ∧ sl = .int .i64 last ∧ Tw wr W.heap.size so its ∧ RI (sAt l i y k) (its.map (·.1)) last ∧ Bd its (N + k) ∧ Below W.heap.size W wr)
        (fun _ _ sk _ => y.f2.length - (intOf sk).toNat)
      case atStart => exact ⟨0, its, last, Nat.zero_le _, rfl, rfl, HT.out, HI.out, HBd.out, HBr.out⟩
      case round =>
        clear hx0 hx2 HT HI HBd HBr
        obtain ⟨k, its, last, hk, rfl, rfl, hT, hI, hB, hBr⟩ := hrel
        have hx0 := pw_cell_below hBr HX0.out
        have hx2 := pw_cell_below hBr HX2.out
        by_cases hlk : k < y.f2.length
        · have hlk' := eq_true hlk
          obtain ⟨a2, hAe, hcellW⟩ := Kd.at_int HC2.out (k : Int) (by omega) (by omega)
          subst hAe
          rw [Int.toNat_natCast] at hcellW
          have hcell := pw_cell_below hBr hcellW
          have hby : rd y.f2 (k : Int) = y.f2[k] := by simp [rd, List.getD_eq_getElem?_getD, List.getElem?_eq_getElem hlk]
          by_cases hd : y.f0 = 0 ∨ y.f0 = 1
          · have hsb := sAt_byte l i y hlk hd
            rw [← hby] at hsb
            generalize rd y.f2 (k : Int) = b at hcell hcellW hsb hby
            have HCW := Lib.hid hcellW
            clear hcellW
            have HSB := Lib.hid hsb
            have hNk : N + k + 1 ≤ 1048576 := by omega
            clear hsb hby
            -- a new turn, or the last one
            go_upto_region 10 with (fail)
            go_cut [35] (fun s35 wx => s35 = .bool false ∧ wx = wr)
            case first =>
              rcases hd with h0 | h1
              · have h0' : (y.f0 != 0) = false := bne_eq_false_iff_eq.mpr h0
                go_wp2_with (fail)
                go_meet
                exact ⟨rfl, rfl⟩
              · have h0' : (y.f0 != 0) = true := bne_iff_ne.mpr (by omega)
                have h1' : (y.f0 != 1) = false := bne_eq_false_iff_eq.mpr h1
                go_wp2_with (fail)
                go_meet
                exact ⟨rfl, rfl⟩
            case rest =>
              obtain ⟨rfl, hwc⟩ := hcut
              subst hwc
              go_upto_region 11 with (fail)
              obtain ⟨Av, cv, rfl⟩ := own_slice hT.1
              have hil : its.length ≤ 1048576 := by have := hB.1; omega
              go_cut [46] (fun s46 wx => ∃ cb : Bool, s46 = .bool cb ∧ (cb = true ↔ (its.map (·.1) = [] ∨ (y.f0 = 0 ∧ last = 1))) ∧ wx = wc)
              case first =>
                by_cases hz : its.map (·.1) = []
                · have hlz : ((its.length : Int) == 0) = true := by rw [List.map_eq_nil_iff.1 hz]; rfl
                  go_wp2_with (fail)
                  go_meet
                  exact ⟨_, rfl, ⟨fun _ => .inl hz, fun _ => rfl⟩, rfl⟩
                · have hlz : ((its.length : Int) == 0) = false := by rw [beq_eq_false_iff_ne]; intro e; exact hz (by rw [List.map_eq_nil_iff]; exact List.eq_nil_of_length_eq_zero (by omega))
                  by_cases h0 : y.f0 = 0
                  · have h0' : (y.f0 == 0) = true := beq_iff_eq.mpr h0
                    go_wp2_with (fail)
                    go_meet
                    refine ⟨_, rfl, ?_, rfl⟩
                    rw [beq_iff_eq]
                    constructor
                    · intro h; exact .inr ⟨h0, h⟩
                    · rintro (h | h)
                      · exact absurd h hz
                      · exact h.2
                  · have h0' : (y.f0 == 0) = false := beq_eq_false_iff_ne.mpr h0
                    go_wp2_with (fail)
                    go_meet
                    exact ⟨_, rfl, ⟨fun h => (by cases h), (by rintro (h | h); exact absurd h hz; exact absurd h.1 h0)⟩, rfl⟩
              case rest =>
                obtain ⟨cb, rfl, hcb, hwc⟩ := hcut
                subst hwc
                go_upto_if 46 with (fail)
                go_cut [3] (fun s3 wx => ∃ (L : List TI) (t : S33) (vo vi : Value), Tw wx W.heap.size s3 (L ++ [(t, vo, vi)]) ∧ RI (sAt l i y (k + 1)) (L.map (·.1) ++ [if y.f0 = 0 then ⟨t.f0 ++ [b], t.f1⟩ else ⟨t.f0, t.f1 ++ [b]⟩]) y.f0 ∧ L.length + 1 ≤ N + k + 1 ∧ (∀ j ∈ L, j.1.f0.length ≤ N + k ∧ j.1.f1.length ≤ N + k) ∧ t.f0.length ≤ N + k ∧ t.f1.length ≤ N + k ∧ Below W.heap.size W wx)
                case first =>
                  cases cb
                  rotate_left
                  · have hn := hcb.1 rfl
                    have hri := ri_new hI hd hn b
                    rw [← HSB.out] at hri
                    have HRI := Lib.hid hri
                    obtain ⟨X, hX⟩ : ∃ X, X = wc.alloc (.cells #[.slice none 0 0, .slice none 0 0] 33) := ⟨_, rfl⟩
                    have hbX : Below wc.heap.size wc X := by rw [hX]; exact (Below.refl _ wc).alloc (Nat.le_refl _) _
                    have hXn : X.heap[wc.heap.size]? = some (.cells #[.slice none 0 0, .slice none 0 0] 33 (0, 0)) := by rw [hX]; exact World.alloc_heap_new wc _
                    have hBX := below_step hBr hbX
                    obtain ⟨v1, w1, happ, hT1, hg1⟩ := tw_new (hT.below hbX) hBX.size ⟨wc.heap.size, 0, none⟩ 1 (fun j u hu => by rw [add_plain]; exact (blk_cell hXn j).trans (by simpa using hu)) (by have := hB.1; omega) 24
                    have HT1 := Lib.hid hT1
                    have HB1 := Lib.hid (hBX.grown hg1 hBX.size (own_base hT.1))
                    have HBd := Lib.hid hB
                    rw [hX] at happ
                    have hfin : ∃ (L : List TI) (t : S33) (vo vi : Value), Tw w1 W.heap.size v1 (L ++ [(t, vo, vi)]) ∧ RI (sAt l i y (k + 1)) (L.map (·.1) ++ [if y.f0 = 0 then ⟨t.f0 ++ [b], t.f1⟩ else ⟨t.f0, t.f1 ++ [b]⟩]) y.f0 ∧ L.length + 1 ≤ N + k + 1 ∧ (∀ j ∈ L, j.1.f0.length ≤ N + k ∧ j.1.f1.length ≤ N + k) ∧ t.f0.length ≤ N + k ∧ t.f1.length ≤ N + k ∧ Below W.heap.size W w1 :=
                      ⟨its, ⟨[], []⟩, .slice none 0 0, .slice none 0 0, HT1.out, by simpa using HRI.out, by have := HBd.out.1; omega, HBd.out.2, Nat.zero_le _, Nat.zero_le _, HB1.out⟩
                    have HFIN := Lib.hid hfin
                    clear hfin hri hX hbX hXn hBX hT1 hg1 hT hI hB hBr
                    clear hn hcb
                    go_wp2_with (at_builtin; refine list_append_run3 rfl (.tmp 47) (.tmp 49) 24 rfl _ _ rfl rfl _ _ happ ?_)
                    go_meet
                    exact HFIN.out
                  · have hn : ¬ (its.map (·.1) = [] ∨ (y.f0 = 0 ∧ last = 1)) := fun h => by have := hcb.2 h; cases this
                    have hne : its ≠ [] := fun e => hn (.inl (by rw [e]; rfl))
                    obtain ⟨L, ⟨t, vo, vi⟩, rfl⟩ : ∃ L x, its = L ++ [x] := ⟨_, _, (List.dropLast_concat_getLast hne).symm⟩
                    rw [List.map_append] at hI
                    have hri := ri_on hI hd (fun h => hn (.inr h)) b
                    rw [← HSB.out] at hri
                    have hm := hB.2 _ (List.mem_append_right L (List.mem_singleton.2 rfl))
                    have hb1 := hB.1
                    rw [List.length_append, List.length_singleton] at hb1
                    have HFIN := Lib.hid (show ∃ (L' : List TI) (t' : S33) (vo' vi' : Value), Tw wc W.heap.size (.slice Av (L ++ [(t, vo, vi)]).length cv) (L' ++ [(t', vo', vi')]) ∧ RI (sAt l i y (k + 1)) (L'.map (·.1) ++ [if y.f0 = 0 then ⟨t'.f0 ++ [b], t'.f1⟩ else ⟨t'.f0, t'.f1 ++ [b]⟩]) y.f0 ∧ L'.length + 1 ≤ N + k + 1 ∧ (∀ j ∈ L', j.1.f0.length ≤ N + k ∧ j.1.f1.length ≤ N + k) ∧ t'.f0.length ≤ N + k ∧ t'.f1.length ≤ N + k ∧ Below W.heap.size W wc from
                      ⟨L, t, vo, vi, hT, hri, by omega, fun j hj => hB.2 j (List.mem_append_left _ hj), hm.1, hm.2, hBr⟩)
                    clear hcb hn hne hri hm hb1 hI hB hT hBr
                    go_wp2_with (fail)
                    go_meet
                    exact HFIN.out
                case rest =>
                  obtain ⟨L, t, vo, vi, hTx, hIx, hL, hLb, ht0, ht1, hBx⟩ := hcut
                  clear hx0 hx2 hcell hI hB hT hcb hil hBr
                  obtain ⟨g, cg, hv, hco, hci, hgb, hgl⟩ := hTx.last
                  subst hv
                  have hown := hTx.2.1 _ (List.mem_append_right L (List.mem_singleton.2 rfl))
                  obtain ⟨Ao, co, hvo⟩ := own_slice hown.1
                  obtain ⟨Ai, ci, hvi⟩ := own_slice hown.2
                  simp only at hvo hvi
                  subst hvo hvi
                  obtain ⟨X, hX⟩ : ∃ X, X = (wc.alloc (.cells #[.int .u8 b] 5)).drew := ⟨_, rfl⟩
                  have hbX : Below wc.heap.size wc X := by rw [hX]; exact below_drew ((Below.refl _ wc).alloc (Nat.le_refl _) _)
                  have hXn : X.heap[wc.heap.size]? = some (.cells #[.int .u8 b] 5 (0, 0)) := by rw [hX]; exact World.alloc_heap_new wc _
                  have hBX := below_step hBx hbX
                  have hXb : X.cell? ((⟨wc.heap.size, 0, none⟩ : Addr).add 0) = some (.int .u8 b) := by rw [add_plain]; exact (blk_cell hXn 0).trans rfl
                  obtain ⟨ado, hado⟩ : ∃ a : Addr, a = ⟨g, 0, none⟩ := ⟨_, rfl⟩
                  have e0 : ado.add (L.length * 2) = ⟨g, L.length * 2, none⟩ := by rw [hado, add_plain]
                  have e1 : (⟨(ado.add (L.length * 2)).block, (ado.add (L.length * 2)).off + 1, none⟩ : Addr) = ⟨g, L.length * 2 + 1, none⟩ := by rw [e0]
                  have O := tw_out (b := b) (hTx.below hbX) hBX.size ⟨wc.heap.size, 0, none⟩ 1 hXb (by omega) 31
                  have I := tw_in (b := b) (hTx.below hbX) hBX.size ⟨wc.heap.size, 0, none⟩ 1 hXb (by omega) 31
                  rw [← e0] at O hco
                  rw [← e1] at I hci
                  rw [← hado] at O I ⊢
                  have d6 : wc.drew.cell? (ado.add (L.length * 2)) = some (.slice Ao t.f0.length co) := hco
                  have d7 : wc.drew.cell? ⟨(ado.add (L.length * 2)).block, (ado.add (L.length * 2)).off + 1, none⟩ = some (.slice Ai t.f1.length ci) := hci
                  have x6 := pw_cell_below hbX hco
                  have x7 := pw_cell_below hbX hci
                  have d11 : wc.drew.cell? ⟨(ad.add (i * 3)).block, (ad.add (i * 3)).off + 2, none⟩ = some (.slice (some a2) y.f2.length c2) := pw_cell_below hBx HX2.out
                  have x11 := pw_cell_below hBX HX2.out
                  have d14 : wc.drew.cell? (a2.add k) = some (.int .u8 b) := pw_cell_below hBx HCW.out
                  have x14 := pw_cell_below hBX HCW.out
                  rw [hX] at x6 x7 x11 x14
                  have hcx2 : wc.cell? ⟨(ad.add (i * 3)).block, (ad.add (i * 3)).off + 2, none⟩ = some (.slice (some a2) y.f2.length c2) := pw_cell_below hBx HX2.out
                  have HBX := Lib.hid hBX
                  have HIx := Lib.hid hIx
                  have HLb := Lib.hid hLb
                  have HX := Lib.hid hX
                  obtain ⟨p, hp⟩ : ∃ p, p = L.length := ⟨_, rfl⟩
                  obtain ⟨M, hM⟩ : ∃ M, M = p + 1 := ⟨_, rfl⟩
                  rw [← hp] at O I d6 d7 x6 x7 hL
                  rw [← hM] at O I
                  rw [← hp, ← hM]
                  have hw : IntKind.i64.wrap ((M : Int) - 1) = (p : Int) := by rw [i64_w]; unfold wrap64; omega
                  have hpM := eq_true (show p < M by omega)
                  have HO := Lib.hid O
                  have HI2 := Lib.hid I
                  have HLp := Lib.hid hp
                  clear O I hTx hIx hLb hX hbX hXn hBX hXb hco hci e0 e1 hado hown hgb hgl hBx hp hM
                  go_upto_region 14 with (fail)
                  by_cases h0 : y.f0 = 0
                  · have h0' : (y.f0 == 0) = true := beq_iff_eq.mpr h0
                    have hI3 := HIx.out
                    rw [if_pos h0] at hI3
                    have HI3 := Lib.hid hI3
                    obtain ⟨v1, w1, happ, hg1, ⟨A1, c1, hv1⟩, hc1, hf1, hT1, hB1⟩ := HO.out
                    subst hv1
                    rw [HX.out] at happ
                    have HT1 := Lib.hid hT1
                    have HB1 := Lib.hid (below_step2 HBX.out hB1)
                    clear hI3 hT1 hB1 hg1 h0 HX HBX HIx
                    go_wp2_with (fail)
                    go_region_law (first | (refine step_append_run3 rfl (.tmp 62) (.tmp 71) 31 rfl _ _ rfl rfl _ _ happ ?_))
                    all_goals
                      clear happ hc1 hf1 d6 d7 x6 x7 d11 x11 d14 x14 hcx2
                      go_wp2
                      go_roundw
                      case rel => exact ⟨k + 1, L ++ [(⟨t.f0 ++ [b], t.f1⟩, .slice A1 (t.f0.length + 1) c1, .slice Ai t.f1.length ci)], y.f0, by omega, by go_num, rfl, HT1.out, by rw [List.map_append]; exact HI3.out, ⟨by rw [List.length_append, List.length_singleton]; have := HLp.out; omega, fun j hj => by
                        rcases List.mem_append.1 hj with hj | hj
                        · have := HLb.out j hj; exact ⟨by omega, by omega⟩
                        · obtain rfl := List.mem_singleton.1 hj
                          constructor
                          · show ((⟨t.f0 ++ [b], t.f1⟩ : S33).f0).length ≤ _
                            simp; omega
                          · show ((⟨t.f0 ++ [b], t.f1⟩ : S33).f1).length ≤ _
                            simp; omega⟩, HB1.out⟩
                      case measure => simp [intOf]; omega
                  · have h0' : (y.f0 == 0) = false := beq_eq_false_iff_ne.mpr h0
                    have hI3 := HIx.out
                    rw [if_neg h0] at hI3
                    have HI3 := Lib.hid hI3
                    obtain ⟨v1, w1, happ, hg1, ⟨A1, c1, hv1⟩, hc1, hf1, hT1, hB1⟩ := HI2.out
                    subst hv1
                    rw [HX.out] at happ
                    have HT1 := Lib.hid hT1
                    have HB1 := Lib.hid (below_step2 HBX.out hB1)
                    clear hI3 hT1 hB1 hg1 h0 HX HBX HIx
                    go_wp2_with (fail)
                    go_region_law (first | (refine step_append_run3 rfl (.tmp 81) (.tmp 90) 31 rfl _ _ rfl rfl _ _ happ ?_))
                    all_goals
                      clear happ hc1 hf1 d6 d7 x6 x7 d11 x11 d14 x14 hcx2
                      go_wp2
                      go_roundw
                      case rel => exact ⟨k + 1, L ++ [(⟨t.f0, t.f1 ++ [b]⟩, .slice Ao t.f0.length co, .slice A1 (t.f1.length + 1) c1)], y.f0, by omega, by go_num, rfl, HT1.out, by rw [List.map_append]; exact HI3.out, ⟨by rw [List.length_append, List.length_singleton]; have := HLp.out; omega, fun j hj => by
                        rcases List.mem_append.1 hj with hj | hj
                        · have := HLb.out j hj; exact ⟨by omega, by omega⟩
                        · obtain rfl := List.mem_singleton.1 hj
                          constructor
                          · show ((⟨t.f0, t.f1 ++ [b]⟩ : S33).f0).length ≤ _
                            simp; omega
                          · show ((⟨t.f0, t.f1 ++ [b]⟩ : S33).f1).length ≤ _
                            simp; omega⟩, HB1.out⟩
                      case measure => simp [intOf]; omega
          · have hd0 : (y.f0 != 0) = true := bne_iff_ne.mpr (by omega)
            have hd1 : (y.f0 != 1) = true := bne_iff_ne.mpr (by omega)
            have hso := sAt_other l i y k hd
            have HT := Lib.hid hT
            have HI := Lib.hid hI
            have HBd := Lib.hid hB
            have HBr := Lib.hid hBr
            have HSO := Lib.hid hso
            clear hT hI hB hBr hso hd hcell hcellW hby
            go_wp2
            go_roundw
            case rel => exact ⟨k + 1, its, last, by omega, by go_num, rfl, HT.out, by rw [HSO.out]; exact HI.out, HBd.out.mono (by omega), HBr.out⟩
            case measure => simp [intOf]; omega
        · obtain rfl : k = y.f2.length := by omega
          rw [HSE.out] at hI
          have HT := Lib.hid hT
          have HI := Lib.hid hI
          have HBd := Lib.hid hB
          have HBr := Lib.hid hBr
          clear hT hI hB hBr
          go_wp2
          go_roundw
          case rel => exact ⟨i + 1, its, last, by omega, by go_num, rfl, HT.out, HI.out, by rw [HTE.out]; exact HBd.out, HBr.out⟩
          case measure => simp [intOf]; omega
    · obtain rfl : i = l.length := by omega
      rw [List.take_length] at hI
      have hE := ri_end hI
      have hR := hT.reads
      rw [hE] at hR
      have HR := Lib.hid hR
      have HBr := Lib.hid hBr
      clear hT hI hB hBr hE hR
      go_wp2
      go_ret
      exact ⟨_, rfl, HR.out, HBr.out⟩
end Go.Proofs.Ytjcaflhlilckgaa.QA
