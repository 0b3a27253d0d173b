import Derived.RangeFuncNested
import Derived.RangeFuncBound
import Derived.RangeFuncCalls
import Derived.RangeFuncLeaves
import Derived.Shelf.Abstract
import Derived.Shelf.RegionOpen
import Derived.WalkKit
import Derived.OwnWalkIn
import Derived.TacticsInMore
import Derived.LoopNIn
import Derived.LoopIn
import Derived.Maps.AppendAt
import Derived.StillTailTactics
import Derived.Lib.Hide
import Derived.Lib.LazyBuf
import Derived.Outline
import Derived.Deep.RegionWith
import Derived.Deep.RegionLaw
import Derived.Deep.RegionHeld3
import Derived.Deep.CutBlock
import Derived.Deep.AppendLies
import Derived.Deep.DeepCutAuto
import Derived.Lib.Bytes
import Derived.Lib.SmallJoins
import Derived.Laws.EntriesVeiled
import Derived.BigRegion
import Derived.BigQuiet
import Derived.CallsIn
import Derived.Test.YtbdknddgfmoipaaGreatDoorProg
import Derived.Test.YtbdknddgfmoipaaGreatDoorZW
import Derived.Test.YtbdknddgfmoipaaGreatDoorZT5
set_option linter.unusedVariables false
set_option linter.unusedSimpArgs false
namespace Go.Proofs.YtbdknddgfmoipaaGreatDoor.TQ
open Go.RowKit Go.Shelf Go.Proofs.YtbdknddgfmoipaaGreatDoorW.PrintWords Go.Proofs.YtbdknddgfmoipaaGreatDoorW.PrintLast Go.Proofs.YtbdknddgfmoipaaGreatDoorW.PrintMore
set_option linter.unusedVariables false
set_option linter.unusedSimpArgs false


section
variable {F F1 : List Nat} {W W0 W1 W2 W' V : World} {o o' : Lo} {s : Sz}
theorem str_append (a b : List Int) : strOfNums a ++ strOfNums b = strOfNums (a ++ b) := by
  apply ByteArray.ext
  simp [strOfNums, ByteArray.data_append]
/-- the world of the statement: the system, and what was written and read at the ends -/
structure Yz where
  s : Sz
  wr : Nat → List Int
  rd : Nat → List Int
def wcells (pa pc rb : Nat) (y : Yz) : Array Value := #[.pointer (some ⟨pa, 0, none⟩), .pointer (some ⟨pc, 0, none⟩), .pointer (some ⟨rb, 0, none⟩), .string (strOfNums (y.wr 0)), .string (strOfNums (y.wr 1)), .string (strOfNums (y.rd 0)), .string (strOfNums (y.rd 1))]
structure WIs (W : World) (wb : Nat) (o : Lo) (y : Yz) : Prop where
  sys : SIs W o y.s
  blk : W.heap[wb]? = some (.cells (wcells (o.pb 0) (o.pb 1) o.rb y) 48 (0, 0))
  lwb : o.L wb = 0
def y0 (m : Nat) : Yz := ⟨s0 m, fun _ => [], fun _ => []⟩
set_option maxRecDepth 100000 in
set_option maxHeartbeats 4000000 in
theorem w_New {k : Nat} (hk : k < 30) (ho : Oth W) (hw : 1 < W.heap.size) : Calls Tryz.prog 10 #[.int .i64 k] W fun e W' => ∃ wb o, e = .returned (.pointer (some ⟨wb, 0, none⟩)) ∧ WIs W' wb o (y0 (k + 1)) ∧ (∀ j, o.L j ≠ 0 → W.heap.size ≤ j) ∧ W.heap.size ≤ wb ∧ Below W.heap.size W W' := by
  have hmax := fun ats ty => max_is 0 (k : Int) (k : Int) (by omega) ats ty
  have hrem : Int.tmod (k : Int) 30 = (k : Int) := by rw [Int.tmod_eq_emod_of_nonneg (by omega)]; omega
  obtain ⟨m, hm⟩ : ∃ m, m = k + 1 := ⟨_, rfl⟩
  have hwr : wrap64 (1 + (k : Int)) = (m : Int) := (IntWalk.i64_left _).symm.trans (by rw [IntKind.wrap_i64]; omega)
  have HN := Lib.hid (fun (W : World) => p_New (W := W) m (by omega) (by omega))
  have HO := Lib.hid ho
  have HW := Lib.hid hw
  rw [← hm]
  clear hk ho hw hm
  go_enter Tryz.func10, Tryz.ntmps10
  go_upto_region 3 with (go_at_call 24; (with_reducible refine (HN.out _).mono ?_); rintro e W1 ⟨pa, ba, Fa, rfl, hp, hF, hpb, hb⟩; have HPa := Lib.hid hp; have HFa := Lib.hid hF; have HSa := Lib.hid hpb; have HBa := Lib.hid hb; have q1 := hp.blk; clear hp hF hpb hb)
  go_upto_region 4 with (go_at_call 24; (with_reducible refine (HN.out _).mono ?_); rintro e W2 ⟨pc, bc, Fc, rfl, hp, hF, hpb, hb⟩; have HPc := Lib.hid hp; have HFc := Lib.hid hF; have HSc := Lib.hid hpb; have HBc := Lib.hid hb; have q2 := hp.blk; clear hp hF hpb hb)
  have hlt1 := lt_of_heap HPa.out.blk
  have hlt2 := lt_of_heap HPc.out.blk
  have hq1 : W2.heap[pa]? = _ := (Ch.of_below HBc.out []).heap q1 (by simp)
  have HR := Lib.hid (r_New (pu := pa) (pc := pc) (by have := HSc.out; omega) hq1 q2)
  clear q1 q2 hq1 hlt1 hlt2
  go_wp2_with (go_at_call 25; (with_reducible refine HR.out.mono ?_); rintro e W3 ⟨rb, cb, rfl, hrb, hcb, hs, hlt, hb⟩; have HRB := Lib.hid hrb; have HCB := Lib.hid hcb; have HS := Lib.hid hs; have HLT := Lib.hid hlt; have HB := Lib.hid hb; clear hrb hcb hs hlt hb HR)
  go_ret
  have hc2 := Ch.of_below HBc.out []
  have hc3 := Ch.of_below HB.out []
  have hB3 := below_step (below_step HBa.out HBc.out) HB.out
  have ho3 : Oth W3 := ⟨pw_cell_below hB3 HO.out.1, pw_cell_below hB3 HO.out.2⟩
  obtain ⟨o, hsys, ho1, ho2, hoL⟩ := sys_new (S0 := W.heap.size) (S1 := W1.heap.size) (S2 := W2.heap.size) ho3 HW.out ((HPa.out.frame hc2 (by simp) (by simp)).frame hc3 (by simp) (by simp)) (HPc.out.frame hc3 (by simp) (by simp)) HSa.out (lt_of_heap HPa.out.blk) (fun s hs f hf => ⟨HFa.out s hs f hf, (HPa.out.q s hs).lt f hf⟩) HSc.out (lt_of_heap HPc.out.blk) (fun s hs f hf => ⟨HFc.out s hs f hf, (HPc.out.q s hs).lt f hf⟩) HRB.out HCB.out HS.out HLT.out
  subst ho1
  have hb4 := below_alloc (Below.refl _ W3) (.cells (wcells (o.pb 0) (o.pb 1) o.rb (y0 m)) 48)
  have hw4 := World.alloc_heap_new W3 (.cells (wcells (o.pb 0) (o.pb 1) o.rb (y0 m)) 48)
  have e0 : o.pb 0 = pa := by rw [ho2]; rfl
  have e1 : o.pb 1 = pc := by rw [ho2]; rfl
  have h4 : WIs (W3.alloc (.cells (wcells (o.pb 0) (o.pb 1) o.rb (y0 m)) 48)) W3.heap.size o (y0 m) := ⟨hsys.below hb4, hw4, hsys.new _ (Nat.le_refl _)⟩
  have hB4 := below_step hB3 hb4
  rw [e0, e1] at h4 hB4
  exact ⟨_, o, rfl, h4, hoL, hB3.size, hB4⟩
end
end Go.Proofs.YtbdknddgfmoipaaGreatDoor.TQ
namespace Go.Proofs.YtbdknddgfmoipaaGreatDoor.TQ
open Go.RowKit Go.Shelf Go.Proofs.YtbdknddgfmoipaaGreatDoorW.PrintWords Go.Proofs.YtbdknddgfmoipaaGreatDoorW.PrintLast Go.Proofs.YtbdknddgfmoipaaGreatDoorW.PrintMore
set_option linter.unusedVariables false
set_option linter.unusedSimpArgs false


section
variable {F F1 : List Nat} {W W0 W1 W2 W' V : World} {o o' : Lo} {s : Sz} {y : Yz} {wb : Nat}
def NoInt (cs : Array Value) : Prop := ∀ (i : Nat) (k : IntKind) (x : Int), cs[i]? ≠ some (Value.int k x)
theorem noint_w (pa pc rb : Nat) (y : Yz) : NoInt (wcells pa pc rb y) := by
  intro i k x h
  unfold wcells at h
  rcases i with _ | _ | _ | _ | _ | _ | _ | i <;> simp at h
theorem far_int {cs : Array Value} (hb : W.heap[wb]? = some (.cells cs 48 (0, 0))) (hn : NoInt cs) {a : Addr} {k : IntKind} {x : Int} (h : W.cell? a = some (.int k x)) : a.block ≠ wb := by
  rintro rfl
  obtain ⟨ab, ao, ap⟩ := a
  simp only [World.cell?] at h
  simp only at hb
  rw [hb] at h
  cases ap with
  | none => exact hn ao k x (by simpa using h)
  | some q => simp at h
theorem SIs.setW (h : SIs W o s) {cs : Array Value} (hb : W.heap[wb]? = some (.cells cs 48 (0, 0))) (hn : NoInt cs) (hL : o.L wb = 0) (j : Nat) (v : Value) : SIs (W.setCell ⟨wb, j, none⟩ v) o s := by
  have hc : Ch [wb] W (W.setCell ⟨wb, j, none⟩ v) := (Ch.refl _ _).set (by simp) _ _
  have hne : ∀ k, o.L k ≠ 0 → k ∉ [wb] := fun k hk hm => hk (by simp at hm; rw [hm]; exact hL)
  have h1 : (1 : Nat) ∉ [wb] := by have := far_int hb hn h.oth.1; simpa using this
  refine ⟨⟨hc.cell h.oth.1 h1, hc.cell h.oth.2 h1⟩, hc.heap h.blk (hne _ (by rw [h.lrb]; decide)), h.clk.frame hc (hne _ (by rw [h.lcb]; decide)), fun i hi => (h.line i hi).frame hc (hne _ (by rw [h.lpb i hi]; omega)) (fun j hj k hk => hne _ (by rw [h.lq i j hi hj k hk]; omega)), fun d hd => ?_, ?_, h.lrb, h.lcb, h.lpb, h.lq, h.l1, fun k hk => h.new k (Nat.le_trans hc.size hk), h.left, h.evn⟩
  · obtain ⟨w1, w2, w3⟩ := h.wait d hd
    refine ⟨⟨w1.1, w1.2.1, fun h0 => ?_⟩, w2, fun a ha => ⟨(w3 a ha).1, Nat.lt_of_lt_of_le (w3 a ha).2 hc.size⟩⟩
    obtain ⟨ad, e, hx⟩ := w1.2.2 h0
    exact ⟨ad, e, fun i hi => hc.cell (hx i hi) (by have := far_int hb hn (hx i hi); simpa using this)⟩
  · exact Kd.R_step h.ev (fun k hk _ => hc.block k (by assumption) (hne k (by rw [hk]; decide)))
theorem WIs.set (h : WIs W wb o y) (j : Nat) (v : Value) (y' : Yz) (hs : y'.s = y.s) (hcells : wcells (o.pb 0) (o.pb 1) o.rb y' = (wcells (o.pb 0) (o.pb 1) o.rb y).setIfInBounds j v) : WIs (W.setCell ⟨wb, j, none⟩ v) wb o y' :=
  ⟨by rw [hs]; exact h.sys.setW h.blk (noint_w _ _ _ _) h.lwb j v, by rw [hcells]; exact blk_set h.blk j v, h.lwb⟩
/-- what a step of the world may turn -/
structure Wx (o : Lo) (W : World) (wb : Nat) (o' : Lo) (W' : World) : Prop where
  ch : ∃ F, Ch F W W' ∧ ∀ k ∈ F, k < W.heap.size → o.L k ≠ 0 ∨ k = wb
  old : ∀ k, k < W.heap.size → o'.L k = o.L k
theorem Wx.of (h : Nxt o W o' W') : Wx o W wb o' W' := by
  obtain ⟨F, hc, hF⟩ := h.ch
  exact ⟨⟨F, hc, fun k hk hlt => .inl (hF k hk hlt)⟩, h.old⟩
theorem Wx.set (h : Wx o W wb o' W') (j : Nat) (v : Value) : Wx o W wb o' (W'.setCell ⟨wb, j, none⟩ v) := by
  obtain ⟨F, hc, hF⟩ := h.ch
  refine ⟨⟨wb :: F, (hc.mono (F1 := wb :: F) (fun k hk => .inl (by simp [hk]))).set (.inl (by simp)) j v, fun k hk hlt => ?_⟩, h.old⟩
  rcases List.mem_cons.1 hk with rfl | hk
  · exact .inr rfl
  · exact hF k hk hlt
theorem Wx.below {B : Nat} (h : Wx o W wb o' W') (hB : B ≤ W.heap.size) (hL : ∀ k, o.L k ≠ 0 → B ≤ k) (hwb : B ≤ wb) (hnew : ∀ k, W.heap.size ≤ k → o.L k = 0) : Below B W W' ∧ ∀ k, o'.L k ≠ 0 → B ≤ k := by
  obtain ⟨F, hc, hF⟩ := h.ch
  refine ⟨⟨hc.os, hc.tape, hc.output, hc.size, fun k hk => hc.block k (by omega) (fun hm => ?_)⟩, fun k hk => ?_⟩
  · rcases hF k hm (by omega) with h1 | h1
    · have := hL k h1; omega
    · omega
  · rcases Nat.lt_or_ge k W.heap.size with h1 | h1
    · exact hL k (by rwa [h.old k h1] at hk)
    · omega
/-- the system has moved, the world's block as it was -/
theorem WIs.next (h : WIs W wb o y) {s' : Sz} (hs : SIs W' o' s') (hn : Nxt o W o' W') : W'.heap[wb]? = some (.cells (wcells (o'.pb 0) (o'.pb 1) o'.rb y) 48 (0, 0)) ∧ o'.L wb = 0 := by
  have h1 := hn.heap h.blk h.lwb
  rw [hn.pb, hn.rb]
  exact h1
theorem WIs.cell (h : WIs W wb o y) (j : Nat) : W.cell? ⟨wb, j, none⟩ = (wcells (o.pb 0) (o.pb 1) o.rb y)[j]? := blk_cell h.blk j
def Yz.act (y : Yz) (p : QA.S32) : Yz where
  s := y.s.act p
  wr := fun i => if p.f0 = 4 ∧ i = 0 then y.wr 0 ++ p.f3.take (min p.f3.length ((y.s.line 0).way 1).room) else if p.f0 = 7 ∧ i = 1 then y.wr 1 ++ p.f3.take (min p.f3.length ((y.s.line 1).way 0).room) else y.wr i
  rd := fun i => if p.f0 = 5 ∧ i = 0 then y.rd 0 ++ ((y.s.line 0).way 0).take p.f1 else if p.f0 = 8 ∧ i = 1 then y.rd 1 ++ ((y.s.line 1).way 1).take p.f1 else y.rd i
theorem pick34 {w : World} {E : Nat} {a b c d : Value} (h : w.heap[E]? = some (.cells #[a, b, c, d] 34 (0, 0))) : w.cell? ⟨E, 0, none⟩ = some a ∧ w.cell? ⟨E, 1, none⟩ = some b ∧ w.cell? ⟨E, 2, none⟩ = some c ∧ w.cell? ⟨E, 3, none⟩ = some d := ⟨(blk_cell h 0).trans rfl, (blk_cell h 1).trans rfl, (blk_cell h 2).trans rfl, (blk_cell h 3).trans rfl⟩
theorem reads_nxt0 {A : Option Addr} {n : Nat} {xs : List Int} (h : ReadsInt W .u8 A n xs) (hn : Nxt o W o' W1) (hA : 0 < n → ∀ a, A = some a → o.L a.block = 0) : ReadsInt W1 .u8 A n xs :=
  ⟨h.1, h.2.1, fun h0 => by
    obtain ⟨F, hc, hF⟩ := hn.ch
    obtain ⟨ad, e, hx⟩ := h.2.2 h0
    refine ⟨ad, e, fun j hj => ?_⟩
    have hlt := lt_of_cell (hx j hj)
    have hb : (ad.add j).block = ad.block := by simp only [Addr.add]; split <;> rfl
    exact hc.cell (hx j hj) (fun hm => hF _ hm hlt (by rw [hb]; exact hA h0 ad e))⟩
end
end Go.Proofs.YtbdknddgfmoipaaGreatDoor.TQ
