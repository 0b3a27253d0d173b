import Derived.RangeFuncNested
import Derived.RangeFuncBound
import Derived.RangeFuncCalls
import Derived.RangeFuncLeaves
import Derived.Shelf.Abstract
import Derived.Shelf.RegionOpen
import Derived.WalkKit
import Derived.OwnWalkIn
import Derived.TacticsInMore
import Derived.LoopNIn
import Derived.LoopIn
import Derived.Maps.AppendAt
import Derived.StillTailTactics
import Derived.Lib.Hide
import Derived.Outline
import Derived.Deep.RegionWith
import Derived.Deep.RegionLaw
import Derived.Deep.AppendLies
import Derived.Test.YtokhmpchgkmbeaaQAx1
import Derived.Test.YtokhmpchgkmbeaaQAx2
import Derived.Test.YtokhmpchgkmbeaaGNew
import Derived.Test.YtokhmpchgkmbeaaGLaw
import Derived.CallsIn
import Derived.Maps.OwnIn
import Derived.Test.YtokhmpchgkmbeaaGAllIt
import Derived.Test.YtokhmpchgkmbeaaGPlaces
import Derived.Test.YtokhmpchgkmbeaaGAll
import Derived.Test.YtokhmpchgkmbeaaGPure
import Derived.Test.YtokhmpchgkmbeaaGReset
import Derived.Test.YtokhmpchgkmbeaaGNewB
namespace Go.Proofs.Ytokhmpchgkmbeaa.QA
open Go.RowKit Go.Shelf Go.Proofs.YtokhmpchgkmbeaaW.PrintWords Go.Proofs.YtokhmpchgkmbeaaW.PrintLast Go.Proofs.YtokhmpchgkmbeaaW.PrintMore
set_option linter.unusedVariables false
set_option linter.unusedSimpArgs false
attribute [local go_sem] Oper.semAt_some max2_int min2_int max_two min_two
/-! ### what GFeeds has, too (this text does not import it) -/
theorem step_s {p back : List Int} (hp : p.length ≤ 1048576) (ht : Tab p back p.length) {K : Nat} (hK : 2 * p.length + 2 ≤ K) (s : List Int) (x : Int) : kmp_next_int.f K p back (best p s : Int) x = some (best p (s ++ [x]) : Int) := by
  have hb := best_is p s
  have hc := hb.1.1
  obtain ⟨r, hr, hbest⟩ := next_ok p back s x hp (best p s) K hb.1 (tab_mono ht hc) (fun j hj _ h => by have := hb.2 j h; omega) (by omega)
  rw [hr, best_eq hbest]
theorem best_nil (p : List Int) : best p [] = 0 := by
  have := bord_len (best_is p []).1
  simpa using this
/-! ### a byte as the number that stands for it -/
theorem next_byte_eq : ∀ k p back at_ x, kmp_next_byte.l0 k p back at_ x = kmp_next_int.l0 k p back at_ x ∧ ∀ b, kmp_next_byte.j1 k p back at_ x b = kmp_next_int.j1 k p back at_ x b := by
  intro k
  induction k with
  | zero => intro p back at_ x; exact ⟨rfl, fun _ => rfl⟩
  | succ k ih =>
    intro p back at_ x
    constructor
    · rw [kmp_next_byte.l0, kmp_next_int.l0]
      simp only [(ih _ _ _ _).2]
    · intro b
      rw [kmp_next_byte.j1, kmp_next_int.j1]
      simp only [(ih _ _ _ _).1]
theorem next_byte_f (k : Nat) (p back : List Int) (at_ x : Int) : kmp_next_byte.f k p back at_ x = kmp_next_int.f k p back at_ x := (next_byte_eq k p back at_ x).1
theorem borders_byte_eq : ∀ k l b i, kmp_Borders_byte.l0 k l b i = kmp_Borders_int.l0 k l b i := by
  intro k
  induction k with
  | zero => intro l b i; rfl
  | succ k ih =>
    intro l b i
    rw [kmp_Borders_byte.l0, kmp_Borders_int.l0]
    simp only [ih, next_byte_f]
theorem borders_byte_f (k : Nat) (l : List Int) : kmp_Borders_byte.f k l = kmp_Borders_int.f k l := by
  unfold kmp_Borders_byte.f kmp_Borders_int.f
  simp only [borders_byte_eq]
theorem best_map {f : Int → Int} (hf : ∀ a b, f a = f b → a = b) (p s : List Int) : best (p.map f) (s.map f) = best p s := by
  have hb := best_is p s
  have key : ∀ k, Bord (p.map f) (s.map f) k ↔ Bord p s k := by
    intro k
    unfold Bord
    rw [List.length_map]
    refine and_congr_right fun hk => ?_
    rw [← List.map_take]
    constructor
    · rintro ⟨t, ht⟩
      have hl := congrArg List.length ht
      rw [List.length_append, List.length_map, List.length_map] at hl
      have h2 := congrArg (List.drop t.length) ht
      rw [List.drop_left, ← List.map_drop] at h2
      have inj : ∀ (a b : List Int), a.map f = b.map f → a = b := by
        intro a
        induction a with
        | nil => intro b h; cases b with
          | nil => rfl
          | cons y b => cases h
        | cons x a ih => intro b h; cases b with
          | nil => cases h
          | cons y b =>
            rw [List.map_cons, List.map_cons, List.cons.injEq] at h
            rw [hf _ _ h.1, ih b h.2]
      have h3 := inj _ _ h2
      exact ⟨s.take t.length, by rw [h3, List.take_append_drop]⟩
    · rintro ⟨t, ht⟩
      exact ⟨t.map f, by rw [← List.map_append, ht]⟩
  exact best_eq ⟨(key _).2 hb.1, fun j hj => hb.2 j ((key j).1 hj)⟩
structure K2 (w W : World) (Ba : Nat) (vpa vba : Value) (p backp : List Int) (Bb : Nat) (vpb vbb : Value) (q backq : List Int) (ata atb : Int) : Prop where
  a : SrchB W Ba vpa vba p backp ata
  b : Srch W Bb vpb vbb q backq atb
  bl : Below w.heap.size w W
structure D2 (w : World) (Ba : Nat) (vpa vba : Value) (Bb : Nat) (vpb vbb : Value) : Prop where
  ab : Ba ≠ Bb
  pa : vpa.ownBlock ≠ some Bb
  ba : vba.ownBlock ≠ some Bb
  pb : vpb.ownBlock ≠ some Ba
  bb : vbb.ownBlock ≠ some Ba
  a1 : some Ba ≠ vpa.ownBlock
  a2 : some Ba ≠ vba.ownBlock
  b1 : some Bb ≠ vpb.ownBlock
  b2 : some Bb ≠ vbb.ownBlock
  na : w.heap.size ≤ Ba
  nb : w.heap.size ≤ Bb
section
variable {w W W' : World} {Ba : Nat} {vpa vba : Value} {p backp : List Int} {Bb : Nat} {vpb vbb : Value} {q backq : List Int} {ata atb r : Int}
theorem v_lt {v : Value} (h : ∀ k, v.ownBlock = some k → ∃ o : Obj, W.heap[k]? = some o ∧ o.isCells = true) (k : Nat) (e : v.ownBlock = some k) : k < W.heap.size := by
  obtain ⟨o, ho, _⟩ := h k e
  exact (Array.getElem?_eq_some_iff.1 ho).1
theorem K2.fedA (h : K2 w W Ba vpa vba p backp Bb vpb vbb q backq ata atb) (d : D2 w Ba vpa vba Bb vpb vbb) (hs : SrchB W' Ba vpa vba p backp r) (hg : W.grownBy W' (some Ba))
    (hlb : Bb < W.heap.size) (hl1 : ∀ k, vpb.ownBlock = some k → k < W.heap.size) (hl2 : ∀ k, vbb.ownBlock = some k → k < W.heap.size) : K2 w W' Ba vpa vba p backp Bb vpb vbb q backq r atb :=
  ⟨hs, h.b.at_ (hg.block Bb hlb (fun e => d.ab (by cases e; rfl))) (fun k e => hg.block k (hl1 k e) (fun e2 => d.pb (by rw [e, e2]))) (fun k e => hg.block k (hl2 k e) (fun e2 => d.bb (by rw [e, e2]))),
   h.bl.grown hg h.bl.size (fun i hi => by cases hi; exact d.na)⟩
theorem K2.fedB (h : K2 w W Ba vpa vba p backp Bb vpb vbb q backq ata atb) (d : D2 w Ba vpa vba Bb vpb vbb) (hs : Srch W' Bb vpb vbb q backq r) (hg : W.grownBy W' (some Bb))
    (hla : Ba < W.heap.size) (hl1 : ∀ k, vpa.ownBlock = some k → k < W.heap.size) (hl2 : ∀ k, vba.ownBlock = some k → k < W.heap.size) : K2 w W' Ba vpa vba p backp Bb vpb vbb q backq ata r :=
  ⟨h.a.at_ (hg.block Ba hla (fun e => d.ab (by cases e; rfl))) (fun k e => hg.block k (hl1 k e) (fun e2 => d.pa (by rw [e, e2]))) (fun k e => hg.block k (hl2 k e) (fun e2 => d.ba (by rw [e, e2]))), hs,
   h.bl.grown hg h.bl.size (fun i hi => by cases hi; exact d.nb)⟩
theorem K2.below (h : K2 w W Ba vpa vba p backp Bb vpb vbb q backq ata atb) (hb : Below W.heap.size W W') (hla : Ba < W.heap.size) (hl1 : ∀ k, vpa.ownBlock = some k → k < W.heap.size) (hl2 : ∀ k, vba.ownBlock = some k → k < W.heap.size)
    (hlb : Bb < W.heap.size) (hl3 : ∀ k, vpb.ownBlock = some k → k < W.heap.size) (hl4 : ∀ k, vbb.ownBlock = some k → k < W.heap.size) : K2 w W' Ba vpa vba p backp Bb vpb vbb q backq ata atb :=
  ⟨h.a.at_ (hb.block Ba hla) (fun k e => hb.block k (hl1 k e)) (fun k e => hb.block k (hl2 k e)), h.b.at_ (hb.block Bb hlb) (fun k e => hb.block k (hl3 k e)) (fun k e => hb.block k (hl4 k e)), below_step h.bl hb⟩
end
/-! ### KmpKinds -/
set_option maxRecDepth 100000 in
set_option maxHeartbeats 400000 in
theorem kinds_walk (A0 A1 : Option Addr) (c0 c1 : Nat) (l0 l1 : List Int) (w : World) (hr0 : Kd.C (Kd.int .u8) w A0 l0.length l0) (hc0 : l0.length ≤ c0) (hr1 : Kd.C (Kd.int .u8) w A1 l1.length l1) (hc1 : l1.length ≤ c1) (hb0 : ∀ x ∈ l0, 0 ≤ x ∧ x < 256) (hb1 : ∀ x ∈ l1, 0 ≤ x ∧ x < 256) (hl0 : l0.length ≤ 1048576) (hl1 : l1.length ≤ 1048576) :
    Calls Try.prog 7 #[.slice A0 l0.length c0, .slice A1 l1.length c1] w fun e w' => e = .returned (.bool true) ∧ Below w.heap.size w w' := by
  refine (callsIn_wide (n := 3)).1 ?_
  have hmx : Try.prog.follows .mixedOrders = true := by kernel_rfl
  obtain ⟨i0, hi0, _, hsz0, _⟩ := info_parts info5
  obtain ⟨n0, en0⟩ : ∃ n : Nat, n = min l0.length 200 := ⟨_, rfl⟩
  obtain ⟨n1, en1⟩ : ∃ n : Nat, n = min l1.length 100 := ⟨_, rfl⟩
  have hm0 : (if (200 : Int) < (l0.length : Int) then 200 else (l0.length : Int)) = (n0 : Int) := by split <;> omega
  have hm1 : (if (100 : Int) < (l1.length : Int) then 100 else (l1.length : Int)) = (n1 : Int) := by split <;> omega
  have hcut0 := cut_to (P := Try.prog) 38 5 .i64 Try.underlying38 hi0 A0 l0.length c0 (n0 : Int) (by omega) (by omega) hc0
  have hcut1 := cut_to (P := Try.prog) 38 5 .i64 Try.underlying38 hi0 A1 l1.length c1 (n1 : Int) (by omega) (by omega) hc1
  rw [Int.toNat_natCast] at hcut0 hcut1
  have ht0 : Kd.C (Kd.int .u8) w A0 (l0.take n0).length (l0.take n0) := Kd.C_take hr0 (by omega)
  have ht1 : Kd.C (Kd.int .u8) w A1 (l1.take n1).length (l1.take n1) := Kd.C_take hr1 (by omega)
  have hq0 : (l0.take n0).length = n0 := by rw [List.length_take]; omega
  have hq1 : (l1.take n1).length = n1 := by rw [List.length_take]; omega
  have hd0 : n0 ≤ c0 := by omega
  have hd1 : n1 ≤ c1 := by omega
  have hv0 : ∀ x ∈ l0.take n0, 0 ≤ x ∧ x < 256 := fun x hx => hb0 x (List.mem_of_mem_take hx)
  have hv1 : ∀ x ∈ l1.take n1, 0 ≤ x ∧ x < 256 := fun x hx => hb1 x (List.mem_of_mem_take hx)
  have hn0 : n0 ≤ 200 := by omega
  have hn1 : n1 ≤ 100 := by omega
  generalize l0.take n0 = t at ht0 hq0 hv0
  generalize l1.take n1 = p at ht1 hq1 hv1
  subst hq0
  subst hq1
  clear hr0 hr1 hb0 hb1 hi0 hsz0 hl0 hl1 en0 en1
  have HT := Lib.hid (show ReadsInt w .u8 A0 t.length t from Kd.reads_of_C (d := (0 : Int)) (h1 := fun _ => rfl) ht0)
  have HP := Lib.hid (show ReadsInt w .u8 A1 p.length p from Kd.reads_of_C (d := (0 : Int)) (h1 := fun _ => rfl) ht1)
  have HPC := Lib.hid ht1
  have HV0 := Lib.hid hv0
  have HV1 := Lib.hid hv1
  clear ht0 ht1 hv0 hv1
  refine callsIn_of_wp Try.func7 rfl trivial ?_ rfl
  simp only [Try.ntmps7, List.size_toArray, List.length_cons, List.length_nil, Nat.reduceAdd, Nat.reduceSub, Array.replicate_succ, Array.replicate_zero, List.push_toArray, List.append_toArray, List.nil_append, List.cons_append]
  gi_wp2
  gi_big_quiet_th_o (fail)
  gi_wp2
  have hB0 : Below w.heap.size w (w.drewN nq) := pw_below_drewN (Below.refl _ _) _
  generalize w.drewN nq = W0 at hB0 ⊢
  gi_loopw [5, 24] (fun v i wr => ∃ j : Nat, j ≤ p.length ∧ i = .int .i64 j ∧ wr.ownsRow w.heap.size 3 1 v j (nums .i64 ((p.take j).map fun b => 1000 - b)) ∧ Below w.heap.size w wr) (fun _ i _ => p.length - (intOf i).toNat)
  case atStart => exact ⟨0, Nat.zero_le _, rfl, World.ownsRow_nil _ _ _ _, hB0⟩
  case round =>
    obtain ⟨j, hj, rfl, hrow, hBw⟩ := hrel
    clear hB0
    by_cases hlt : j < p.length
    · obtain ⟨x, hxt⟩ : ∃ x, p[j]? = some x := ⟨_, List.getElem?_eq_getElem hlt⟩
      have hxv := HV1.out x (List.mem_of_getElem? hxt)
      obtain ⟨ad, rfl, hcg⟩ := (HP.out.below hBw).2.2 (by omega)
      have hcx := hcg j hlt
      clear hcg
      have hgd : p.getD j 0 = x := by rw [List.getD_eq_getElem?_getD, hxt]; rfl
      rw [hgd] at hcx
      have hw1 : wrap64 x = x := wrapId (by omega)
      have hw2 : wrap64 (1000 - x) = 1000 - x := wrapId (by omega)
      have hw3 : IntKind.i64.wrap x = x := (i64_w _).trans hw1
      have hw4 : IntKind.i64.wrap (1000 - x) = 1000 - x := (i64_w _).trans hw2
      have hstep : (p.take (j + 1)).map (fun b => 1000 - b) = (p.take j).map (fun b => 1000 - b) ++ [1000 - x] := by
        rw [take_snoc hxt, List.map_append]; rfl
      have HS := Lib.hid hstep
      have hlq : ((p.take j).map fun b => (1000 : Int) - b).length = j := by rw [List.length_map, List.length_take]; omega
      have hrow2 : wr.ownsRow w.heap.size 3 1 u5 ((p.take j).map fun b => (1000 : Int) - b).length (nums .i64 ((p.take j).map fun b => 1000 - b)) := by rw [hlq]; exact hrow
      have HR := Lib.hid hrow2
      have HB := Lib.hid hBw
      clear hgd hxt hstep hrow hrow2 hBw
      gi_wp2_with (gi_at_builtin; refine in_append_one w.heap.size rfl _ _ 22 3 .i64 8 rfl Try.underlying22 info3 u5 _ (1000 - x) wr.heap.size 1 rfl rfl (HR.out.alloc _) (Boxed.new wr 3 _).cell (by rw [World.size_alloc]; have := HB.out.size; omega) (by rw [hlq]; omega) (by rw [hlq]; omega) ?_; rintro v1 w5 hown hg5 hat ⟨Av, cv, rfl⟩; have HO := Lib.hid hown; have HG := Lib.hid hg5; clear hown hg5 hat)
      have hbw4 := HB.out.alloc HB.out.size (.cells #[.int .i64 (1000 - x)] 3)
      have hb5 : Below w.heap.size w w5 := hbw4.grown HG.out hbw4.size (fun r e => own_base HR.out r e)
      have ho5 := HO.out
      rw [hlq, ← HS.out] at ho5
      go_roundw
      case rel => exact ⟨j + 1, by omega, by go_num, ho5, hb5⟩
      case measure => simp [intOf]; omega
    · obtain rfl : j = p.length := by omega
      rw [List.take_length] at hrow
      have lq : (p.map fun b => (1000 : Int) - b).length = p.length := List.length_map _
      have bq : ∀ s : List Int, best (p.map fun b => (1000 : Int) - b) (s.map fun b => 1000 - b) = best p s := fun s => best_map (fun a b h => by omega) p s
      have BQ := Lib.hid bq
      clear bq
      generalize (p.map fun b => (1000 : Int) - b) = q at lq hrow BQ
      have hrow2 : wr.ownsRow w.heap.size 3 1 u5 q.length (nums .i64 q) := by rw [lq]; exact hrow
      obtain ⟨Aq, cq, rfl⟩ := own_slice hrow2
      have hRq := Kd.R_reads' (Kd.R_of_own (enc := Value.int .i64) (h1 := fun _ => rfl) (ok := fun _ => True) hrow2 (fun _ _ => trivial))
      obtain ⟨backp, hp1, hp2, hp3⟩ := borders_ok p (by omega)
      obtain ⟨backq, hq1, hq2, hq3⟩ := borders_ok q (by omega)
      have hlq : q.length ≤ 100 := by omega
      have h10 : Fence.wide.fn 10 := trivial
      have h16 : Fence.wide.fn 16 := trivial
      have h17 : Fence.wide.fn 17 := trivial
      have h22 : Fence.wide.fn 22 := trivial
      have h23 : Fence.wide.fn 23 := trivial
      have h24 : Fence.wide.fn 24 := trivial
      have h25 : Fence.wide.fn 25 := trivial
      have HAL := Lib.hid (fun W => (callsIn_wide (n := 2)).2 (cuecardlaw08_alive.calls 200 true W (alive_f (Nat.le_refl _))))
      have HNA := Lib.hid ((callsIn_wide (n := 2)).2 (new_byte (5 * p.length + 4) A1 c1 p backp wr (Kd.C_below HPC.out hBw) hd1 (by omega) (by rw [borders_byte_f]; exact hp3 _ (Nat.le_refl _))))
      have HNB := Lib.hid (fun W (hB : Below wr.heap.size wr W) => (callsIn_wide (n := 2)).2 (new_int (5 * q.length + 4) Aq cq q backq W (Kd.C_below hRq.2.2 hB) hRq.2.1 (by omega) (hq3 _ (Nat.le_refl _))))
      have HTP := Lib.hid hp2
      have HTQ := Lib.hid hq2
      have HBW := Lib.hid hBw
      clear hp1 hp2 hp3 hq1 hq2 hq3 hrow hrow2 hRq hBw
      have e8 : (.slice Aq p.length cq : Value) = .slice Aq q.length cq := by rw [lq]
      gi_wp2_with (first | (gi_at_call 22; refine HNA.out.mono ?_; rintro e w3 ⟨Ba, vpa, vba, rfl, ha1, ha2, ha3, ha4, ha5, ha6, ha7, ha8, ha9⟩; have HA := Lib.hid (And.intro ha1 (And.intro ha2 (And.intro ha3 (And.intro ha4 (And.intro ha5 (And.intro ha6 (And.intro ha7 (And.intro ha8 ha9)))))))); clear ha1 ha2 ha3 ha4 ha5 ha6 ha7 ha8 ha9 HNA) | (gi_at_call 16; have hq := HNB.out w3 HA.out.2.2.2.2.2.2.2.2; refine hq.mono ?_; rintro e w4 ⟨Bb, vpb, vbb, rfl, ha1, ha2, ha3, ha4, ha5, ha6, ha7, ha8, ha9⟩; have HBB := Lib.hid (And.intro ha1 (And.intro ha2 (And.intro ha3 (And.intro ha4 (And.intro ha5 (And.intro ha6 (And.intro ha7 (And.intro ha8 ha9)))))))); clear ha1 ha2 ha3 ha4 ha5 ha6 ha7 ha8 ha9 HNB hq) | (gi_at_call 10; refine (HAL.out _).mono ?_; rintro e w5 ⟨rfl, hb5⟩; have HB5 := Lib.hid hb5; clear hb5))
      obtain ⟨a1, a2, a3, a4, a5, a6, a7, a8, a9⟩ := HA.out
      obtain ⟨b1, b2, b3, b4, b5, b6, b7, b8, b9⟩ := HBB.out
      have bw := HBW.out.size
      have la : Ba < w3.heap.size := (Array.getElem?_eq_some_iff.1 a6.1).1
      have lpa := v_lt a7
      have lba := v_lt a8
      have lb : Bb < w4.heap.size := (Array.getElem?_eq_some_iff.1 b6.1).1
      have lpb := v_lt b7
      have lbb := v_lt b8
      have s34 := b9.size
      have d : D2 w Ba vpa vba Bb vpb vbb := ⟨by omega, fun e => by have := lpa _ e; omega, fun e => by have := lba _ e; omega, fun e => by have := b2 _ e; omega, fun e => by have := b3 _ e; omega, a4, a5, b4, b5, by omega, by have := a9.size; omega⟩
      have hz : ((best p ([] : List Int) : Nat) : Int) = 0 := by rw [best_nil]; rfl
      have k4 : K2 w w4 Ba vpa vba p backp Bb vpb vbb q backq 0 0 := ⟨a6.at_ (b9.block Ba la) (fun k e => b9.block k (lpa k e)) (fun k e => b9.block k (lba k e)), b6, below_step (below_step HBW.out a9) b9⟩
      have k5 := k4.below HB5.out (by omega) (fun k e => by have := lpa k e; omega) (fun k e => by have := lba k e; omega) lb lpb lbb
      have n5 : w4.heap.size ≤ w5.heap.size := HB5.out.size
      have LT := Lib.hid (And.intro (fun k (e : vpa.ownBlock = some k) => Nat.lt_of_lt_of_le (lpa k e) s34) (And.intro (fun k (e : vba.ownBlock = some k) => Nat.lt_of_lt_of_le (lba k e) s34) (And.intro lpb lbb)))
      have la4 : Ba < w4.heap.size := by omega
      have HD := Lib.hid d
      have K5 := Lib.hid k5
      have HZ := Lib.hid hz
      clear HA HBB a1 a2 a3 a4 a5 a6 a7 a8 a9 b1 b2 b3 b4 b5 b6 b7 b8 b9 lpa lba lpb lbb d k4 k5 hz HB5 la s34 bw
      gi_loopw [51] (fun i wr' => ∃ j : Nat, j ≤ t.length ∧ i = .int .i64 j ∧ K2 w wr' Ba vpa vba p backp Bb vpb vbb q backq (best p (t.take j) : Int) (best p (t.take j) : Int) ∧ w4.heap.size ≤ wr'.heap.size) (fun i _ => t.length - (intOf i).toNat)
      case atStart => exact ⟨0, Nat.zero_le _, rfl, by rw [List.take_zero, HZ.out]; exact K5.out, n5⟩
      case round =>
        obtain ⟨j, hj, rfl, hk2, hn2⟩ := hrel
        clear n5 K5 HZ
        by_cases hlt : j < t.length
        · obtain ⟨x, hxt⟩ : ∃ x, t[j]? = some x := ⟨_, List.getElem?_eq_getElem hlt⟩
          have hxv := HV0.out x (List.mem_of_getElem? hxt)
          obtain ⟨ad, rfl, hcg⟩ := (HT.out.below hk2.bl).2.2 (by omega)
          have hcx := hcg j hlt
          clear hcg
          have hgd : t.getD j 0 = x := by rw [List.getD_eq_getElem?_getD, hxt]; rfl
          rw [hgd] at hcx
          have hw1 : wrap64 x = x := wrapId (by omega)
          have hw2 : wrap64 (1000 - x) = 1000 - x := wrapId (by omega)
          have hw3 : IntKind.i64.wrap x = x := (i64_w _).trans hw1
          have hw4 : IntKind.i64.wrap (1000 - x) = 1000 - x := (i64_w _).trans hw2
          have hsn : t.take (j + 1) = t.take j ++ [x] := take_snoc hxt
          have hfa : kmp_next_byte.f (2 * p.length + 2) p backp (best p (t.take j) : Int) x = some (best p (t.take (j + 1)) : Int) := by
            rw [next_byte_f, hsn]; exact step_s (by omega) HTP.out (Nat.le_refl _) _ _
          have hfb : kmp_next_int.f (2 * q.length + 2) q backq (best p (t.take j) : Int) (1000 - x) = some (best p (t.take (j + 1)) : Int) := by
            rw [← BQ.out (t.take j), ← BQ.out (t.take (j + 1)), hsn, List.map_append]
            exact step_s (by omega) HTQ.out (Nat.le_refl _) _ _
          have HFA := Lib.hid ((callsIn_wide (n := 2)).2 (feed_byte _ Ba vpa vba p backp (best p (t.take j) : Int) x _ wr hk2.a HD.out.a1 HD.out.a2 hfa))
          have HFB := Lib.hid (fun W (hS : Srch W Bb vpb vbb q backq (best p (t.take j) : Int)) => (callsIn_wide (n := 2)).2 (feed_int _ Bb vpb vbb q backq (best p (t.take j) : Int) (1000 - x) _ W hS HD.out.b1 HD.out.b2 hfb))
          have HK := Lib.hid hk2
          have HX := Lib.hid hsn
          have hlt2 : w4.heap.size ≤ wr.heap.size := hn2
          clear hk2 hfa hfb hsn hxt hgd
          generalize ((best p (t.take j) : Nat) : Int) = r0 at HFA HFB HK
          generalize hr1 : ((best p (t.take (j + 1)) : Nat) : Int) = r1 at HFA HFB
          have HR1 := Lib.hid hr1
          clear hr1
          gi_wp2_with (first | (gi_at_call 23; refine HFA.out.mono ?_; rintro e w6 ⟨rfl, hS6, hg6⟩; have K6 := Lib.hid (HK.out.fedA HD.out hS6 hg6 (by omega) (fun k e => Nat.lt_of_lt_of_le (LT.out.2.2.1 k e) hn2) (fun k e => Nat.lt_of_lt_of_le (LT.out.2.2.2 k e) hn2)); have n6 : w4.heap.size ≤ w6.heap.size := Nat.le_trans hn2 hg6.size; clear hS6 hg6) | (gi_at_call 17; have hq := HFB.out w6 K6.out.b; with_reducible refine hq.mono ?_; clear hq; rintro e w7 ⟨rfl, hS7, hg7⟩; have K7 := Lib.hid (K6.out.fedB HD.out hS7 hg7 (by omega) (fun k e => Nat.lt_of_lt_of_le (LT.out.1 k e) n6) (fun k e => Nat.lt_of_lt_of_le (LT.out.2.1 k e) n6)); have n7 : w4.heap.size ≤ w7.heap.size := Nat.le_trans n6 hg7.size; rw [lq]; clear hS7 hg7) | (gi_at_call 24; have hq := (callsIn_wide (n := 2)).2 (at_byte Ba vpa vba p backp _ w7 K7.out.a.1); with_reducible refine hq.mono ?_; clear hq; rintro e w8 ⟨rfl, e8⟩; obtain rfl := e8.symm; clear e8) | (gi_at_call 25; have hq := (callsIn_wide (n := 2)).2 (at_int Bb vpb vbb q backq _ w7 K7.out.b); with_reducible refine hq.mono ?_; clear hq; rintro e w8 ⟨rfl, e8⟩; obtain rfl := e8.symm; clear e8))
          go_roundw
          case rel => exact ⟨j + 1, by omega, by go_num, by rw [HR1.out]; exact K7.out, n7⟩
          case measure => simp [intOf]; omega
        · obtain rfl : j = t.length := by omega
          have HK := Lib.hid hk2.bl
          clear hk2
          gi_wp2
          go_ret
          exact ⟨rfl, HK.out⟩
end Go.Proofs.Ytokhmpchgkmbeaa.QA
