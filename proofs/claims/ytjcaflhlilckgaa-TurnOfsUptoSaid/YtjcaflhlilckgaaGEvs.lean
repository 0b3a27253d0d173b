import Derived.RangeFuncNested
import Derived.RangeFuncBound
import Derived.RangeFuncCalls
import Derived.RangeFuncLeaves
import Derived.Shelf.Abstract
import Derived.Shelf.RegionOpen
import Derived.WalkKit
import Derived.OwnWalkIn
import Derived.TacticsInMore
import Derived.LoopNIn
import Derived.LoopIn
import Derived.Maps.AppendAt
import Derived.StillTailTactics
import Derived.Lib.Hide
import Derived.Outline
import Derived.Deep.RegionWith
import Derived.Deep.RegionLaw
import Derived.Deep.AppendLies
import Derived.Test.YtjcaflhlilckgaaGOf
import Derived.Test.YtjcaflhlilckgaaQAx0
import Derived.CallsIn
namespace Go.Proofs.Ytjcaflhlilckgaa.QA
open Go.RowKit Go.Shelf Go.Proofs.YtjcaflhlilckgaaW.PrintWords Go.Proofs.YtjcaflhlilckgaaW.PrintLast Go.Proofs.YtjcaflhlilckgaaW.PrintMore
attribute [local go_sem] Oper.semAt_some
set_option linter.unusedVariables false
set_option linter.unusedSimpArgs false
/-! ### turn.Events -/
def ev1 (t : S33) : List S37 := (if 0 < t.f0.length then [⟨0, 0, t.f0⟩] else []) ++ (if 0 < t.f1.length then [⟨1, 0, t.f1⟩] else [])
def evs (l : List S33) : List S37 := l.flatMap ev1
theorem ev1_len (t : S33) : (ev1 t).length ≤ 2 := by unfold ev1; split <;> split <;> simp
theorem evs_cons (t : S33) (r : List S33) : evs (t :: r) = ev1 t ++ evs r := rfl
theorem evs_append (l m : List S33) : evs (l ++ m) = evs l ++ evs m := List.flatMap_append
theorem evs_len (l : List S33) : (evs l).length ≤ 2 * l.length := by
  induction l with
  | nil => exact Nat.le_refl _
  | cons t r ih => have := ev1_len t; rw [evs_cons, List.length_append, List.length_cons]; omega
def evp (d : Int) (b : List Int) : List S37 := if 0 < b.length then [⟨d, 0, b⟩] else []
/-- what is told of a turn behind j rounds -/
def evj (t : S33) : Nat → List S37
  | 0 => []
  | 1 => evp 0 t.f0
  | _ => evp 0 t.f0 ++ evp 1 t.f1
theorem evj_len (t : S33) (j : Nat) : (evj t j).length ≤ 2 := by
  have h : ∀ d b, (evp d b).length ≤ 1 := fun d b => by unfold evp; split <;> simp
  match j with
  | 0 => simp [evj]
  | 1 => have := h 0 t.f0; simp only [evj]; omega
  | j + 2 => have := h 0 t.f0; have := h 1 t.f1; simp only [evj, List.length_append]; omega
/-- a clone's row becomes an element's part -/
theorem part37 {w3 w4 : World} {base n₀ : Nat} {v vc : Value} {d : Int} {b : List Int} {xs : List S37} (hc : Kd.R (Kd.int .u8) 5 w3 n₀ (fun _ => True) vc b) (hb : base ≤ n₀) (hv : Kd.R k37 37 w4 base (fun _ => True) v xs) (o : Obj) (h4 : w4 = w3.alloc o) :
    k37.M w4 base (fun k => True ∧ some k ≠ v.ownBlock) ⟨d, 0, b⟩ [.int .i64 d, .int .i64 0, vc] := by
  subst h4
  exact k37_mkM _ _ _ ⟨d, 0, b⟩ (Kd.R_apart' (Kd.R_alloc (Kd.R_lower hc hb) o) (Kd.R_typed hv) (by decide))
theorem new_cells (w : World) (cs : List Value) (t : TypeId) : ∀ j u, cs[j]? = some u → (w.alloc (.cells cs.toArray t)).cell? ((⟨w.heap.size, 0, none⟩ : Addr).add j) = some u := fun j u hu => by
  rw [add_plain]
  exact (blk_cell (World.alloc_heap_new w _) j).trans (by simpa using hu)
theorem row_other {w : World} {base g : Nat} {v : Value} {xs : List S37} {cells : Array Value} {q : TypeId} (h : Kd.R k37 37 w base (fun _ => True) v xs) (hg : w.heap[g]? = some (.cells cells q (0, 0))) (hq : q ≠ 37) : some g ≠ v.ownBlock := fun e => by
  obtain ⟨c, hc⟩ := Kd.R_typed h g e.symm
  rw [hg] at hc
  injection hc with hc
  injection hc with _ hc
  exact hq hc
theorem clone_step {n : Nat} {w wr : World} {A : Option Addr} {c : Nat} {b : List Int} {B : Nat} {v : Value} {xs : List S37} {cells : Array Value} (d : Int) (hC : (Kd.int .u8).C w A b.length b) (hc : b.length ≤ c) (hb : b.length ≤ 1048576) (hB : Below w.heap.size w wr)
    (hR : Kd.R k37 37 wr w.heap.size (fun _ => True) v xs) (hblk : wr.heap[B]? = some (.cells cells 31 (0, 0))) : CallsIn Fence.wide n Try.prog 25 #[.slice A b.length c] wr fun e w3 => ∃ Ac cc, e = .returned (.slice Ac b.length cc) ∧
      Hid (k37.M (w3.alloc (.cells #[.int .i64 d, .int .i64 0, .slice Ac b.length cc] 37)) w.heap.size (fun k => True ∧ some k ≠ v.ownBlock) ⟨d, 0, b⟩ [.int .i64 d, .int .i64 0, .slice Ac b.length cc]) ∧
      Hid (∀ j u, ([.int .i64 d, .int .i64 0, .slice Ac b.length cc] : List Value)[j]? = some u → (w3.alloc (.cells #[.int .i64 d, .int .i64 0, .slice Ac b.length cc] 37)).cell? ((⟨w3.heap.size, 0, none⟩ : Addr).add j) = some u) ∧
      Hid (Kd.R k37 37 (w3.alloc (.cells #[.int .i64 d, .int .i64 0, .slice Ac b.length cc] 37)) w.heap.size (fun _ => True) v xs) ∧
      Hid (Below w.heap.size w (w3.alloc (.cells #[.int .i64 d, .int .i64 0, .slice Ac b.length cc] 37))) ∧
      Hid ((w3.alloc (.cells #[.int .i64 d, .int .i64 0, .slice Ac b.length cc] 37)).heap[B]? = some (.cells cells 31 (0, 0))) := by
  refine ((callsIn_wide (n := n)).2 (slices_Clone_byte_byte.calls 0 A c b b wr (Kd.C_below hC hB) hc (if_pos (by omega)))).mono ?_
  rintro e w3 ⟨vc, rfl, hRc, hBc⟩
  obtain ⟨Ac, cc, rfl⟩ := Kd.R_slice hRc
  have hR3 := Kd.R_alloc (Kd.R_below hR hBc) (.cells #[.int .i64 d, .int .i64 0, .slice Ac b.length cc] 37)
  have hlt := (Array.getElem?_eq_some_iff.1 hblk).1
  have hb3 : w3.heap[B]? = some (.cells cells 31 (0, 0)) := (hBc.block _ hlt).trans hblk
  have hB3 : Below w.heap.size w w3 := hB.trans (hBc.mono hB.size)
  refine ⟨Ac, cc, rfl, Lib.hid (part37 (d := d) hRc hB.size hR3 _ rfl), Lib.hid (new_cells w3 [.int .i64 d, .int .i64 0, .slice Ac b.length cc] 37), Lib.hid hR3, Lib.hid (hB3.alloc hB3.size _), Lib.hid ?_⟩
  exact ((World.grownBy_alloc w3 (.cells #[.int .i64 d, .int .i64 0, .slice Ac b.length cc] 37) none).block _ (Array.getElem?_eq_some_iff.1 hb3).1 (by intro e; cases e)).trans hb3
set_option maxRecDepth 100000 in
set_option maxHeartbeats 2000000 in
theorem events_in (n : Nat) (hn : 3 ≤ n) (A : Option Addr) (cap : Nat) (w : World) (l : List S33) (hl : l.length ≤ 1048576) (hes : ∀ t ∈ l, t.f0.length ≤ 1048576 ∧ t.f1.length ≤ 1048576) (hr0 : Kd.C k33 w A l.length l) (hcap : l.length ≤ cap) :
    CallsIn Fence.wide n Try.prog 19 #[.slice A l.length cap] w fun e W' => ∃ v, e = .returned v ∧ Kd.R k37 37 W' w.heap.size (fun _ => True) v (evs l) ∧ Below w.heap.size w W' := by
  have h1 : 1 ≤ n := by omega
  have h25 : Fence.wide.fn 25 := trivial
  refine callsIn_of_wp Try.func19 rfl trivial ?_ rfl
  simp only [Try.ntmps19, List.size_toArray, List.length_cons, List.length_nil, Nat.reduceAdd, Nat.reduceSub, Array.replicate_succ, Array.replicate_zero, List.push_toArray, List.append_toArray, List.nil_append, List.cons_append]
  have HE := Lib.hid hes
  clear hes
  gi_wp2
  gi_loopw [10, 3] (fun i v wr => ∃ k : Nat, k ≤ l.length ∧ i = .int .i64 k ∧ Kd.R k37 37 wr w.heap.size (fun _ => True) v (evs (l.take k)) ∧ Below w.heap.size w wr) (fun i _ _ => l.length - (intOf i).toNat)
  case atStart => exact ⟨0, Nat.zero_le _, rfl, Kd.R_nil _ _ _ _ _, Below.refl _ _⟩
  case round =>
    obtain ⟨k, hk, rfl, hR, hB⟩ := hrel
    by_cases hlt : k < l.length
    · have hrd : rd_T33 l (k : Int) = l[k] := by
        unfold rd_T33
        rw [Int.toNat_natCast, List.getD_eq_getElem?_getD, List.getElem?_eq_getElem hlt]
        rfl
      obtain ⟨ad, A0, c0, A1, c1, rfl, hx0, hx1, hc0, hC0, hc1, hC1⟩ := at_T33 hr0 (k : Int) (by omega) (by omega)
      obtain ⟨hte0, hte1⟩ := HE.out _ (List.getElem_mem hlt)
      have hnx : evs (l.take (k + 1)) = evs (l.take k) ++ ev1 l[k] := by rw [List.take_succ_eq_append_getElem hlt, evs_append, evs_cons, show evs [] = [] from rfl, List.append_nil]
      rw [hrd] at hx0 hx1 hc0 hC0 hc1 hC1
      rw [Int.toNat_natCast] at hx0 hx1
      replace hx0 := pw_cell_below hB hx0
      replace hx1 := pw_cell_below hB hx1
      have hlen := evs_len (l.take k)
      rw [List.length_take] at hlen
      clear hrd
      generalize l[k] = t at *
      have HNX := Lib.hid hnx
      clear hnx
      gi_wp2
      obtain ⟨B2, hE2⟩ : ∃ B2, B2 = wr.heap.size + 1 := ⟨_, rfl⟩
      rw [← hE2]
      have HE2 := Lib.hid hE2
      clear hE2
      gi_loopw [20, 3] (fun jj v2 wr2 => ∃ j : Nat, j ≤ 2 ∧ jj = .int .i64 j ∧ Kd.R k37 37 wr2 w.heap.size (fun _ => True) v2 (evs (l.take k) ++ evj t j) ∧ Below w.heap.size w wr2 ∧ wr2.heap[B2]? = some (.cells #[.slice A0 t.f0.length c0, .slice A1 t.f1.length c1] 31 (0, 0))) (fun jj _ _ => 2 - (intOf jj).toNat)
      case atStart =>
        refine ⟨0, by omega, rfl, ?_, (hB.alloc hB.size _).alloc (by have := hB.size; simp; omega) _, ?_⟩
        · rw [show evj t 0 = [] from rfl, List.append_nil]
          exact Kd.R_alloc (Kd.R_alloc hR _) _
        · have := World.alloc_heap_new (wr.alloc (.cells #[.slice A0 t.f0.length c0, .slice A1 t.f1.length c1] 33)) (.cells #[.slice A0 t.f0.length c0, .slice A1 t.f1.length c1] 31)
          rw [World.size_alloc, ← HE2.out] at this
          exact this
      case round =>
        obtain ⟨j, hj, rfl, hR2, hB2, hblk⟩ := hrel
        have hb0 : wr.cell? ⟨B2, 0, none⟩ = some (.slice A0 t.f0.length c0) := (blk_cell hblk 0).trans rfl
        have hb1 : wr.cell? ⟨B2, 1, none⟩ = some (.slice A1 t.f1.length c1) := (blk_cell hblk 1).trans rfl
        have hlj := evj_len t j
        have hlx : (evs (l.take k) ++ evj t j).length ≤ 2097160 := by rw [List.length_append]; omega
        obtain hj2 | hj2 | hj2 : j = 0 ∨ j = 1 ∨ j = 2 := by omega
        · obtain rfl : j = 0 := hj2
          by_cases hp : 0 < t.f0.length
          · have hpos : decide ((0 : Int) < (t.f0.length : Int)) = true := decide_eq_true (by omega)
            have hev : evj t 1 = evj t 0 ++ [⟨0, 0, t.f0⟩] := by simp [evj, evp, hp]
            have Hev := Lib.hid hev
            clear hev
            gi_wp2_with (first | (gi_at_call 25; refine (clone_step 0 hC0 hc0 (by omega) hB2 hR2 hblk).mono ?_; rintro e w3 ⟨Ac, cc, rfl, HM, HN, HR, HB, HK⟩) | (gi_at_builtin; refine in_append_R k37 w.heap.size rfl _ _ 22 37 (.agg #[.int .i64 0, .int .i64 0, .slice none 0 0]) 40 rfl Try.underlying22 info37 rfl (by decide) (by decide) u3 (evs (l.take k) ++ evj t 0) ⟨0, 0, t.f0⟩ [.int .i64 0, .int .i64 0, .slice Ac t.f0.length cc] ⟨w3.heap.size, 0, none⟩ 1 rfl rfl HR.out HM.out HN.out HB.out.size (by omega) ?_; rintro v4 w4 hR4 hgrow - hat))
            go_roundw
            case rel => exact ⟨1, by omega, by go_num, by rw [Hev.out, ← List.append_assoc]; exact hR4, HB.out.grown hgrow HB.out.size (own_base (Kd.R_own HR.out).choose_spec), blk_grown HK.out hgrow (row_other HR.out HK.out (by decide))⟩
            case measure => simp [intOf]
          · have hpos : decide ((0 : Int) < (t.f0.length : Int)) = false := decide_eq_false (by omega)
            have hev : evj t 1 = evj t 0 := by simp [evj, evp, hp]
            have Hev := Lib.hid hev
            clear hev
            gi_wp2
            go_roundw
            case rel => exact ⟨1, by omega, by go_num, by rw [Hev.out]; exact hR2, hB2, hblk⟩
            case measure => simp [intOf]
        · obtain rfl : j = 1 := hj2
          by_cases hp : 0 < t.f1.length
          · have hpos : decide ((0 : Int) < (t.f1.length : Int)) = true := decide_eq_true (by omega)
            have hev : evj t 2 = evj t 1 ++ [⟨1, 0, t.f1⟩] := by simp [evj, evp, hp]
            have Hev := Lib.hid hev
            clear hev
            gi_wp2_with (first | (gi_at_call 25; refine (clone_step 1 hC1 hc1 (by omega) hB2 hR2 hblk).mono ?_; rintro e w3 ⟨Ac, cc, rfl, HM, HN, HR, HB, HK⟩) | (gi_at_builtin; refine in_append_R k37 w.heap.size rfl _ _ 22 37 (.agg #[.int .i64 0, .int .i64 0, .slice none 0 0]) 40 rfl Try.underlying22 info37 rfl (by decide) (by decide) u3 (evs (l.take k) ++ evj t 1) ⟨1, 0, t.f1⟩ [.int .i64 1, .int .i64 0, .slice Ac t.f1.length cc] ⟨w3.heap.size, 0, none⟩ 1 rfl rfl HR.out HM.out HN.out HB.out.size (by omega) ?_; rintro v4 w4 hR4 hgrow - hat))
            go_roundw
            case rel => exact ⟨2, by omega, by go_num, by rw [Hev.out, ← List.append_assoc]; exact hR4, HB.out.grown hgrow HB.out.size (own_base (Kd.R_own HR.out).choose_spec), blk_grown HK.out hgrow (row_other HR.out HK.out (by decide))⟩
            case measure => simp [intOf]
          · have hpos : decide ((0 : Int) < (t.f1.length : Int)) = false := decide_eq_false (by omega)
            have hev : evj t 2 = evj t 1 := by simp [evj, evp, hp]
            have Hev := Lib.hid hev
            clear hev
            gi_wp2
            go_roundw
            case rel => exact ⟨2, by omega, by go_num, by rw [Hev.out]; exact hR2, hB2, hblk⟩
            case measure => simp [intOf]
        · obtain rfl : j = 2 := hj2
          have hev : evs (l.take (k + 1)) = evs (l.take k) ++ evj t 2 := HNX.out
          have Hev := Lib.hid hev
          clear hev
          gi_wp2
          go_roundw
          case rel => exact ⟨k + 1, by omega, by go_num, by rw [Hev.out]; exact hR2, hB2⟩
          case measure => simp [intOf]; omega
    · obtain rfl : k = l.length := by omega
      rw [List.take_length] at hR
      gi_wp2
      refine bodyPost_ret (results_tmp rfl _ _ _) rfl ?_
      exact ⟨_, rfl, hR, hB⟩
/-- the events of turns; none where there are too many -/
def turn_Events.f (k : Nat) (l : List S33) : Option (List S37) := if l.length ≤ 1048576 ∧ ∀ t ∈ l, t.f0.length ≤ 1048576 ∧ t.f1.length ≤ 1048576 then some (evs l) else none
theorem turn_Events.mono : ∀ a0 k, LeO (turn_Events.f k a0) (turn_Events.f (k + 1) a0) := fun _ _ => LeO.refl _
theorem turn_Events.callsR (k : Nat) (A0 : Option Addr) (c0 : Nat) (l0 : List (S33)) (r : List (S37)) (w : World) (hr0 : Kd.C k33 w A0 l0.length l0) (hc0 : l0.length ≤ c0) (h : turn_Events.f k l0 = some r) :
    Calls Try.prog 19 #[.slice A0 l0.length c0] w fun e w' => ∃ v0_ : Value, e = .returned (v0_) ∧ Kd.R k37 37 w' w.heap.size (fun _ => True) v0_ r ∧ Below w.heap.size w w' := by
  unfold turn_Events.f at h
  by_cases hc : l0.length ≤ 1048576 ∧ ∀ t ∈ l0, t.f0.length ≤ 1048576 ∧ t.f1.length ≤ 1048576
  · rw [if_pos hc] at h
    obtain rfl := Option.some.inj h
    exact (callsIn_wide (n := 3)).1 (events_in 3 (by omega) A0 c0 w l0 hc.1 hc.2 hr0 hc0)
  · rw [if_neg hc] at h
    cases h
theorem turn_Events.calls (k : Nat) (P0_ : Nat → Prop) (A0 : Option Addr) (c0 : Nat) (l0 : List (S33)) (r : List (S37)) (w : World) (hs0 : Kd.V k33 33 w w.heap.size (fun k_ => P0_ k_) (.slice A0 l0.length c0) l0) (h : turn_Events.f k l0 = some r) :
    Calls Try.prog 19 #[.slice A0 l0.length c0] w fun e w' => ∃ v0_ : Value, e = .returned (v0_) ∧ Kd.N k37 37 w' w.heap.size (fun k_ => (P0_ k_ ∨ w.heap.size ≤ k_)) v0_ r ∧ Below w.heap.size w w' := by
  obtain ⟨_, hc, hC⟩ := Kd.V_reads' hs0
  refine (turn_Events.callsR k A0 c0 l0 r w hC hc h).mono ?_
  rintro e w' ⟨v, he, hR, hB⟩
  exact ⟨v, he, Kd.N_mono (Kd.R_N (Kd.R_bound hR)) (fun k_ hk => .inr hk.2.1), hB⟩
end Go.Proofs.Ytjcaflhlilckgaa.QA
