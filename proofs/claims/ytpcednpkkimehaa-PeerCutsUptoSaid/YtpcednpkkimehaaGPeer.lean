import Derived.RangeFuncNested
import Derived.RangeFuncBound
import Derived.RangeFuncCalls
import Derived.RangeFuncLeaves
import Derived.Shelf.Abstract
import Derived.Shelf.RegionOpen
import Derived.WalkKit
import Derived.OwnWalkIn
import Derived.TacticsInMore
import Derived.LoopNIn
import Derived.LoopIn
import Derived.Maps.AppendAt
import Derived.StillTailTactics
import Derived.Lib.Hide
import Derived.Lib.LazyBuf
import Derived.Outline
import Derived.Deep.RegionWith
import Derived.Deep.RegionLaw
import Derived.Deep.AppendLies
import Derived.CallsIn
import Derived.Test.YtpcednpkkimehaaPPl
import Derived.Test.YtpcednpkkimehaaQAx5
namespace Go.Proofs.Ytpcednpkkimehaa.QA
open Go.RowKit Go.Shelf Go.Proofs.YtpcednpkkimehaaW.PrintWords Go.Proofs.YtpcednpkkimehaaW.PrintLast Go.Proofs.YtpcednpkkimehaaW.PrintMore
attribute [local go_sem] max2_int min2_int max_two min_two max_three min_three max_four min_four   -- for this text's walks alone
set_option linter.unusedVariables false
set_option linter.unusedSimpArgs false
/-! ### a peer in memory -/
/-- what does not turn: what the child said, what the user said, the merged events, whether the end was seen -/
structure Pc where
  out : List Int
  inn : List Int
  l : List S40
  fin : Bool
/-- what turns -/
structure Pz where
  said : Nat
  heard : Nat
  right : Bool
deriving DecidableEq
/-- where it lies -/
structure Pa where
  B : Nat
  Ao : Option Addr
  co : Nat
  Ai : Option Addr
  ci : Nat
  Bl : Nat
  Al : Option Addr
  cl : Nat
def Pa.cells (a : Pa) (c : Pc) (s : Pz) : Array Value := #[.slice a.Ao c.out.length a.co, .slice a.Ai c.inn.length a.ci, .func (.func 32) #[] #[.pointer (some ⟨a.Bl, 0, none⟩)], .bool c.fin, .int .i64 s.said, .int .i64 s.heard, .bool s.right]
structure PeAt (W : World) (ok : Nat → Prop) (a : Pa) (c : Pc) (s : Pz) : Prop where
  blk : W.heap[a.B]? = some (.cells (a.cells c s) 57 (0, 0))
  nb : ¬ ok a.B
  lo : c.out.length ≤ a.co
  li : c.inn.length ≤ a.ci
  ll : c.l.length ≤ a.cl
  fo : Kd.F (Kd.int .u8) W ok a.Ao c.out.length c.out
  fi : Kd.F (Kd.int .u8) W ok a.Ai c.inn.length c.inn
  fl : Kd.F k40 W ok a.Al c.l.length c.l
  bl : ok a.Bl
  hbl : Boxed W a.Bl 22 (.slice a.Al c.l.length a.cl)
section
variable {W W' : World} {ok : Nat → Prop} {a : Pa} {c : Pc} {s : Pz}
theorem PeAt.lt (h : PeAt W ok a c s) : a.B < W.heap.size := (Array.getElem?_eq_some_iff.1 h.blk).1
theorem PeAt.step (h : PeAt W ok a c s) (hb : W'.heap[a.B]? = W.heap[a.B]?) (hm : ∀ k, ok k → k < W.heap.size → W'.heap[k]? = W.heap[k]?) : PeAt W' ok a c s :=
  ⟨hb.trans h.blk, h.nb, h.lo, h.li, h.ll, Kd.F_step h.fo hm, Kd.F_step h.fi hm, Kd.F_step h.fl hm, h.bl, (hm _ h.bl h.hbl.lt).trans h.hbl⟩
theorem PeAt.grown (h : PeAt W ok a c s) {row : Option Nat} (hg : W.grownBy W' row) (hb : some a.B ≠ row) (hr : ∀ k, ok k → some k ≠ row) : PeAt W' ok a c s := h.step (hg.block _ h.lt hb) (fun k hk hl => hg.block k hl (hr k hk))
theorem PeAt.below (h : PeAt W ok a c s) (hb : Below W.heap.size W W') : PeAt W' ok a c s := h.step (hb.block _ h.lt) (fun k _ hl => hb.block k hl)
theorem PeAt.drew (h : PeAt W ok a c s) : PeAt W.drew ok a c s := h.below (below_drew (Below.refl _ _))
theorem PeAt.drewN (h : PeAt W ok a c s) (n : Nat) : PeAt (W.drewN n) ok a c s := h.below (pw_below_drewN (Below.refl _ _) n)
theorem PeAt.cell (h : PeAt W ok a c s) (j : Nat) : W.cell? ⟨a.B, j, none⟩ = (a.cells c s)[j]? := by simp [World.cell?, h.blk]
theorem PeAt.cells (h : PeAt W ok a c s) : W.cell? ⟨a.B, 0, none⟩ = some (.slice a.Ao c.out.length a.co) ∧ W.cell? ⟨a.B, 1, none⟩ = some (.slice a.Ai c.inn.length a.ci) ∧ W.cell? ⟨a.B, 2, none⟩ = some (.func (.func 32) #[] #[.pointer (some ⟨a.Bl, 0, none⟩)]) ∧ W.cell? ⟨a.B, 3, none⟩ = some (.bool c.fin) ∧ W.cell? ⟨a.B, 4, none⟩ = some (.int .i64 s.said) ∧ W.cell? ⟨a.B, 5, none⟩ = some (.int .i64 s.heard) ∧ W.cell? ⟨a.B, 6, none⟩ = some (.bool s.right) :=
  ⟨h.cell 0, h.cell 1, h.cell 2, h.cell 3, h.cell 4, h.cell 5, h.cell 6⟩
theorem PeAt.frozen (h : PeAt W ok a c s) (j : Nat) : W.frozen? ⟨a.B, j, none⟩ = false := by simp [World.frozen?, h.blk]
/-- a field is written -/
theorem PeAt.set (h : PeAt W ok a c s) (j : Nat) (v : Value) (s' : Pz) (he : (a.cells c s).setIfInBounds j v = a.cells c s') : PeAt (W.setCell ⟨a.B, j, none⟩ v) ok a c s' ∧ W.grownBy (W.setCell ⟨a.B, j, none⟩ v) (some a.B) := by
  have hg : W.grownBy (W.setCell ⟨a.B, j, none⟩ v) (some a.B) := ⟨rfl, rfl, rfl, (KeepsWalks.setCell W _ _).size, fun k _ hk => Below.heap_setCell W ⟨a.B, j, none⟩ _ k (fun e => hk (by rw [e]))⟩
  have hm : ∀ k, ok k → k < W.heap.size → (W.setCell ⟨a.B, j, none⟩ v).heap[k]? = W.heap[k]? := fun k hk hl => hg.block k hl (fun e => h.nb (by injection e with e; exact e ▸ hk))
  refine ⟨⟨?_, h.nb, h.lo, h.li, h.ll, Kd.F_step h.fo hm, Kd.F_step h.fi hm, Kd.F_step h.fl hm, h.bl, (hm _ h.bl h.hbl.lt).trans h.hbl⟩, hg⟩
  have := blk_set h.blk j v
  rw [he] at this
  exact this
end
set_option maxRecDepth 100000 in
set_option maxHeartbeats 1000000 in
/-- the closure of peer.New -/
theorem due1 (h : Nat) (l : List S40) (hs : small l) (Bl : Nat) (Al : Option Addr) (cl : Nat) (W : World) (hb : Boxed W Bl 22 (.slice Al l.length cl)) (hC : Kd.C k40 W Al l.length l) (hl : l.length ≤ cl) :
    Calls Try.prog 32 #[.int .i64 h, .pointer (some ⟨Bl, 0, none⟩)] W fun e W' => e = .returned (.int .i64 (due h 0 0 l : Nat)) ∧ Below W.heap.size W W' := by
  have hc := hb.cell
  have HC := Lib.hid hC
  have HS := Lib.hid (due_f (h : Int) l hs (l.length + 1) (by omega))
  clear hC
  go_enter Try.func32, Try.ntmps32
  go_wp2_with (go_at_call 33; refine (event_Due.calls (l.length + 1) _ _ _ l _ _ HC.out hl HS.out).mono ?_; rintro e w' ⟨rfl, hB⟩)
  go_ret
  exact ⟨rfl, hB⟩
set_option maxRecDepth 100000 in
set_option maxHeartbeats 4000000 in
theorem peer_Due {W : World} {ok : Nat → Prop} {a : Pa} {c : Pc} {s : Pz} (h : PeAt W ok a c s) (hs : small c.l) (hd : s.said ≤ due s.heard 0 0 c.l) (hd2 : due s.heard 0 0 c.l ≤ 1048576) :
    Calls Try.prog 15 #[.pointer (some ⟨a.B, 0, none⟩)] W fun e W' => e = .returned (.int .i64 ((due s.heard 0 0 c.l - s.said : Nat) : Int)) ∧ Below W.heap.size W W' := by
  obtain ⟨h0, h1, h2, h3, h4, h5, h6⟩ := h.cells
  have HP := Lib.hid h
  have HS := Lib.hid hs
  have HW := Lib.hid (show IntKind.i64.wrap ((due s.heard 0 0 c.l : Nat) - (s.said : Int)) = ((due s.heard 0 0 c.l - s.said : Nat) : Int) by rw [i64_w]; unfold wrap64; omega)
  clear h hs h0 h1 h3 h6
  go_enter Try.func15, Try.ntmps15
  go_wp2
  go_region_with (go_at_call 32; refine (due1 s.heard c.l HS.out a.Bl a.Al a.cl _ HP.out.drew.hbl (Kd.F_now HP.out.drew.fl) HP.out.ll).mono ?_; rintro e w' ⟨rfl, hB⟩; have h4' := pw_cell_below hB h4)
  all_goals
    go_wp2
    go_ret
    exact ⟨by rw [HW.out]; rfl, ⟨hB.os, hB.tape, hB.output, hB.size, hB.block⟩⟩
end Go.Proofs.Ytpcednpkkimehaa.QA
