import Derived.RangeFuncNested
import Derived.RangeFuncBound
import Derived.RangeFuncCalls
import Derived.RangeFuncLeaves
import Derived.Shelf.Abstract
import Derived.Shelf.RegionOpen
import Derived.WalkKit
import Derived.OwnWalkIn
import Derived.TacticsInMore
import Derived.LoopNIn
import Derived.LoopIn
import Derived.Maps.AppendAt
import Derived.StillTailTactics
import Derived.Lib.Hide
import Derived.Lib.LazyBuf
import Derived.Outline
import Derived.Deep.RegionWith
import Derived.Deep.RegionLaw
import Derived.Deep.RegionHeld3
import Derived.Deep.CutBlock
import Derived.Deep.AppendLies
import Derived.Deep.DeepCutAuto
import Derived.Lib.Bytes
import Derived.Lib.SmallJoins
import Derived.Laws.EntriesVeiled
import Derived.BigRegion
import Derived.BigQuiet
import Derived.CallsIn
import Derived.Test.YtbdknddgfmoipaaGreatDoorProg
import Derived.Test.YtbdknddgfmoipaaGreatDoorZW
import Derived.Test.YtbdknddgfmoipaaGreatDoorZT6
import Derived.Test.YtbdknddgfmoipaaGreatDoorZQ3
import Derived.Test.YtbdknddgfmoipaaGreatDoorZT7
import Derived.Test.YtbdknddgfmoipaaGreatDoorZQ1
set_option linter.unusedVariables false
set_option linter.unusedSimpArgs false
namespace Go.Proofs.YtbdknddgfmoipaaGreatDoor.TQ
open Go.RowKit Go.Shelf Go.Proofs.YtbdknddgfmoipaaGreatDoorW.PrintWords Go.Proofs.YtbdknddgfmoipaaGreatDoorW.PrintLast Go.Proofs.YtbdknddgfmoipaaGreatDoorW.PrintMore
set_option linter.unusedVariables false
set_option linter.unusedSimpArgs false


section
variable {s : Sz} {y : Yz}
def noted (d : Int) (l : List QA.S42) : List Int := l.flatMap fun x => if x.f0 = d then x.f2 else []
theorem noted_snoc (d : Int) (l : List QA.S42) (e : QA.S42) : noted d (l ++ [e]) = noted d l ++ (if e.f0 = d then e.f2 else []) := by unfold noted; simp
theorem noted_len (d : Int) (l : List QA.S42) : (noted d l).length ≤ QA.tot l := by
  induction l with
  | nil => simp [noted, QA.tot]
  | cons x r ih =>
    rw [QA.tot_cons]
    have : noted d (x :: r) = (if x.f0 = d then x.f2 else []) ++ noted d r := by unfold noted; simp
    rw [this, List.length_append]
    split <;> simp <;> omega
theorem turn_way (s : Sz) (i j : Nat) (q : Qz) (a b : Nat) : ((s.turn i j q).line a).way b = if a = i ∧ b = j then q else (s.line a).way b := by
  unfold Sz.turn upd Pz.set
  by_cases h : a = i
  · subst h; by_cases h2 : b = j
    · subst h2; simp
    · simp [h2]
  · simp [h]
structure Inv (y : Yz) : Prop where
  ok : ∀ x ∈ y.s.r.ev, QA.Ok1 x
  in1 : ∀ x ∈ y.s.r.ev, QA.In1 x
  cnt : y.s.r.ev.length ≤ 4096
  tot : QA.tot y.s.r.ev + y.s.r.left = 262144
  wrote : ∀ d : Nat, d < 2 → y.wr (1 - d) = noted d y.s.r.ev ++ (y.s.src d).xs
  told : ∀ d : Nat, d < 2 → noted d y.s.r.ev = y.rd d ++ (y.s.dst d).xs ++ y.s.r.wait d
  byt : ∀ d : Nat, d < 2 → QA.Byt (y.s.src d).xs
  i64 : QA.I64 y.s.r.clk.t
  clk0 : y.s.r.clk.ok = false → y.s.r.clk.t = 0 ∧ y.s.r.ev = []
  late : ∀ x ∈ y.s.r.ev, x.f1 ≤ y.s.r.clk.t
  sorted : y.s.r.ev.Pairwise (fun a b => a.f1 ≤ b.f1)
theorem Inv.of (h : Inv y) {y' : Yz} (he : y'.s.r.ev = y.s.r.ev) (hl : y'.s.r.left = y.s.r.left) (hc : y'.s.r.clk = y.s.r.clk)
    (hw : ∀ d : Nat, d < 2 → y'.wr (1 - d) = noted d y.s.r.ev ++ (y'.s.src d).xs) (ht : ∀ d : Nat, d < 2 → noted d y.s.r.ev = y'.rd d ++ (y'.s.dst d).xs ++ y'.s.r.wait d) (hb : ∀ d : Nat, d < 2 → QA.Byt (y'.s.src d).xs) : Inv y' :=
  ⟨by rw [he]; exact h.ok, by rw [he]; exact h.in1, by rw [he]; exact h.cnt, by rw [he, hl]; exact h.tot, by rw [he]; exact hw, by rw [he]; exact ht, hb, by rw [hc]; exact h.i64, by rw [he, hc]; exact h.clk0, by rw [he, hc]; exact h.late, by rw [he]; exact h.sorted⟩
theorem src_turn (s : Sz) (i j : Nat) (q : Qz) (d : Nat) : (s.turn i j q).src d = if 1 - d = i ∧ d = j then q else s.src d := turn_way s i j q (1 - d) d
theorem dst_turn (s : Sz) (i j : Nat) (q : Qz) (d : Nat) : (s.turn i j q).dst d = if d = i ∧ d = j then q else s.dst d := turn_way s i j q d d
theorem Inv.took (h : Inv y) {d : Nat} (hd : d < 2) {n : Int} (hg : y.s.got d n = []) : Inv { y with s := y.s.took d n } := by
  have hx : ((y.s.src d).drop (y.s.most n)).xs = (y.s.src d).xs := by
    have h1 : ((y.s.src d).take (y.s.most n)) ++ ((y.s.src d).drop (y.s.most n)).xs = (y.s.src d).xs := List.take_append_drop _ _
    rw [show (y.s.src d).take (y.s.most n) = [] from hg] at h1
    exact h1
  have hs : ∀ e : Nat, ((y.s.took d n).src e).xs = (y.s.src e).xs := by
    intro e
    unfold Sz.took
    rw [src_turn]
    split
    · rename_i hh; rw [hh.2]; exact hx
    · rfl
  have ht : ∀ e : Nat, (y.s.took d n).dst e = y.s.dst e := by
    intro e
    unfold Sz.took
    rw [dst_turn, if_neg (by omega)]
  exact h.of rfl rfl rfl (fun e he => by show y.wr (1 - e) = _ ++ ((y.s.took d n).src e).xs; rw [hs e]; exact h.wrote e he) (fun e he => by show _ = y.rd e ++ ((y.s.took d n).dst e).xs ++ _; rw [ht e]; exact h.told e he) (fun e he => by show QA.Byt ((y.s.took d n).src e).xs; rw [hs e]; exact h.byt e he)
theorem Inv.shut (h : Inv y) {d : Nat} (hd : d < 2) : Inv { y with s := y.s.shut d } := by
  have hs : ∀ e : Nat, e < 2 → (y.s.shut d).src e = y.s.src e := by
    intro e he
    show (y.s.turn d d (y.s.dst d).end_).src e = _
    rw [src_turn, if_neg (by omega)]
  have ht : ∀ e : Nat, ((y.s.shut d).dst e).xs = (y.s.dst e).xs := by
    intro e
    show ((y.s.turn d d (y.s.dst d).end_).dst e).xs = _
    rw [dst_turn]
    split
    · rename_i hh; rw [hh.1]; rfl
    · rfl
  exact h.of rfl rfl rfl (fun e he => by show y.wr (1 - e) = _ ++ ((y.s.shut d).src e).xs; rw [hs e he]; exact h.wrote e he) (fun e he => by show _ = y.rd e ++ ((y.s.shut d).dst e).xs ++ _; rw [ht e]; exact h.told e he) (fun e he => by show QA.Byt ((y.s.shut d).src e).xs; rw [hs e he]; exact h.byt e he)
theorem see_le (c : Cz) (t : Int) (h : c.ok = false → c.t = 0) : c.t ≤ (c.see t).t ∨ c.ok = false := by
  unfold Cz.see
  split
  · rename_i h1; exact .inr h1.1
  · split
    · left; show c.t ≤ t; omega
    · exact .inl (Int.le_refl _)
theorem see_ok (c : Cz) (t : Int) (h : c.ok = false → c.t = 0) : (c.see t).ok = true := by
  unfold Cz.see
  split
  · rfl
  · rename_i h1
    split
    · rfl
    · cases hc : c.ok with
      | true => rfl
      | false => exact absurd ⟨hc, h hc⟩ h1
theorem see_i64 {c : Cz} {t : Int} (h : QA.I64 c.t) (ht : QA.I64 t) : QA.I64 (c.see t).t := by
  unfold Cz.see
  split
  · exact ht
  · split
    · exact ht
    · exact h
theorem tot_snoc (l : List QA.S42) (e : QA.S42) : QA.tot (l ++ [e]) = QA.tot l + e.f2.length := by unfold QA.tot; simp
theorem Inv.note (h : Inv y) {d : Nat} (hd : d < 2) {n t : Int} {ys : List Int} (hb : false = y.s.blocked d n) (hg : y.s.got d n = ys) (ht : QA.I64 t) : Inv { y with s := (y.s.took d n).note d t ys } := by
  have hx : ys ++ ((y.s.src d).drop (y.s.most n)).xs = (y.s.src d).xs := by
    rw [← hg]; exact List.take_append_drop _ _
  have hw0 : y.s.r.wait d = [] := by
    unfold Sz.blocked at hb
    have : ¬ 0 < (y.s.r.wait d).length := by intro h0; simp [h0] at hb
    exact List.eq_nil_of_length_eq_zero (by omega)
  have hc0 : y.s.r.ev.length ≠ 4096 := by
    unfold Sz.blocked at hb
    intro h0; simp [h0] at hb
  have hyl : ys.length ≤ 65536 ∧ ys.length ≤ y.s.r.left := by
    rw [← hg]; unfold Sz.got Qz.take Sz.most; rw [List.length_take]; omega
  have hyb : QA.Byt ys := fun x hx1 => h.byt d hd x (by rw [← hx]; exact List.mem_append_left _ hx1)
  have hle : ∀ x ∈ y.s.r.ev, x.f1 ≤ (y.s.r.clk.see t).t := by
    intro x hx1
    rcases see_le y.s.r.clk t (fun h0 => (h.clk0 h0).1) with h1 | h1
    · exact Int.le_trans (h.late x hx1) h1
    · rw [(h.clk0 h1).2] at hx1; cases hx1
  have hs : ∀ e : Nat, ((y.s.took d n).src e).xs = if e = d then ((y.s.src d).drop (y.s.most n)).xs else (y.s.src e).xs := by
    intro e
    unfold Sz.took
    rw [src_turn]
    by_cases he : e = d
    · subst he; simp
    · rw [if_neg (by omega), if_neg he]
  have htt : ∀ e : Nat, (y.s.took d n).dst e = y.s.dst e := by
    intro e
    unfold Sz.took
    rw [dst_turn, if_neg (by omega)]
  have hcast : ∀ e : Nat, ((d : Int) = (e : Int)) ↔ e = d := by intro e; omega
  refine ⟨fun x hx1 => ?_, fun x hx1 => ?_, ?_, ?_, fun e he => ?_, fun e he => ?_, fun e he => ?_, see_i64 h.i64 ht, fun h0 => ?_, fun x hx1 => ?_, ?_⟩
  · rcases List.mem_append.1 hx1 with h1 | h1
    · exact h.ok x h1
    · simp at h1; subst h1; exact ⟨by show (d : Int) = 0 ∨ (d : Int) = 1; omega, hyl.1⟩
  · rcases List.mem_append.1 hx1 with h1 | h1
    · exact h.in1 x h1
    · simp at h1; subst h1; exact ⟨see_i64 h.i64 ht, hyb⟩
  · show (y.s.r.ev ++ [_]).length ≤ 4096
    have := h.cnt
    rw [List.length_append, List.length_singleton]; omega
  · show QA.tot (y.s.r.ev ++ [(⟨(d : Int), (y.s.r.clk.see t).t, ys⟩ : QA.S42)]) + (y.s.r.left - ys.length) = 262144
    rw [tot_snoc]
    have := h.tot
    show QA.tot y.s.r.ev + ys.length + (y.s.r.left - ys.length) = 262144
    omega
  · show y.wr (1 - e) = noted e (y.s.r.ev ++ [(⟨(d : Int), (y.s.r.clk.see t).t, ys⟩ : QA.S42)]) ++ ((y.s.took d n).src e).xs
    rw [noted_snoc, hs e, h.wrote e he]
    by_cases hed : e = d
    · subst hed
      simp only [if_true]
      rw [List.append_assoc, hx]
    · rw [if_neg (show ¬ (d : Int) = (e : Int) by omega), if_neg hed, List.append_nil]
  · show noted e (y.s.r.ev ++ [(⟨(d : Int), (y.s.r.clk.see t).t, ys⟩ : QA.S42)]) = y.rd e ++ ((y.s.took d n).dst e).xs ++ upd y.s.r.wait d ys e
    rw [noted_snoc, htt e, h.told e he]
    by_cases hed : e = d
    · subst hed
      simp only [upd, if_true, hw0, List.append_nil]
    · rw [if_neg (show ¬ (d : Int) = (e : Int) by omega), List.append_nil]
      simp only [upd, hed, if_false]
  · show QA.Byt ((y.s.took d n).src e).xs
    rw [hs e]
    split
    · exact fun x hx1 => h.byt d hd x (by rw [← hx]; exact List.mem_append_right _ hx1)
    · exact h.byt e he
  · exact absurd (see_ok y.s.r.clk t (fun h1 => (h.clk0 h1).1)) (by rw [show (y.s.r.clk.see t).ok = false from h0]; decide)
  · rcases List.mem_append.1 hx1 with h1 | h1
    · exact hle x h1
    · simp at h1; subst h1; exact Int.le_refl _
  · show (y.s.r.ev ++ [_]).Pairwise _
    rw [List.pairwise_append]
    exact ⟨h.sorted, List.pairwise_singleton _ _, fun a ha b hb1 => by simp at hb1; subst hb1; exact hle a ha⟩
theorem Inv.read (h : Inv y) {d : Nat} (hd : d < 2) (n : Int) {t : Int} (ht : QA.I64 t) : Inv { y with s := y.s.read d n t } := by
  unfold Sz.read
  cases hb : y.s.blocked d n with
  | true => simpa using h
  | false =>
    simp only [Bool.false_eq_true, if_false]
    by_cases hg : y.s.got d n = []
    · rw [if_pos hg]
      have h1 := h.took hd hg
      split
      · exact h1.shut hd
      · exact h1
    · rw [if_neg hg]; exact h.note hd hb.symm rfl ht
theorem Inv.write (h : Inv y) {d : Nat} (hd : d < 2) (n : Int) : Inv { y with s := y.s.write d n } := by
  have hs : ∀ e : Nat, e < 2 → (y.s.write d n).src e = y.s.src e := by
    intro e he
    show (y.s.turn d d _).src e = _
    rw [src_turn, if_neg (by omega)]
  refine h.of rfl rfl rfl (fun e he => by show y.wr (1 - e) = _ ++ ((y.s.write d n).src e).xs; rw [hs e he]; exact h.wrote e he) (fun e he => ?_) (fun e he => by show QA.Byt ((y.s.write d n).src e).xs; rw [hs e he]; exact h.byt e he)
  show noted e y.s.r.ev = y.rd e ++ ((y.s.turn d d ((y.s.dst d).put (y.s.give d n))).dst e).xs ++ upd y.s.r.wait d ((y.s.r.wait d).drop (y.s.gives d n)) e
  rw [dst_turn, h.told e he]
  by_cases hed : e = d
  · subst hed
    rw [if_pos ⟨rfl, rfl⟩]
    simp only [upd, if_true]
    show _ = y.rd e ++ ((y.s.dst e).xs ++ (y.s.give e n).take (min (y.s.give e n).length (y.s.dst e).room)) ++ (y.s.r.wait e).drop (y.s.gives e n)
    have h1 : (y.s.give e n).take (min (y.s.give e n).length (y.s.dst e).room) = (y.s.r.wait e).take (y.s.gives e n) := by
      unfold Sz.gives
      conv => lhs; unfold Sz.give
      rw [List.take_take]
      congr 1
      unfold Sz.give
      rw [List.length_take]
      omega
    rw [h1]
    rw [List.append_assoc, List.append_assoc, List.append_assoc, List.take_append_drop]
  · rw [if_neg (by omega)]
    simp only [upd, hed, if_false]
theorem Inv.step (h : Inv y) (k n : Int) {t : Int} (ht : QA.I64 t) : Inv { y with s := y.s.step k n t } := by
  unfold Sz.step
  split
  · exact h.read (by decide) n ht
  · split
    · exact h.read (by decide) n ht
    · split
      · exact h.write (by decide) n
      · split
        · exact h.write (by decide) n
        · exact h
end
end Go.Proofs.YtbdknddgfmoipaaGreatDoor.TQ
namespace Go.Proofs.YtbdknddgfmoipaaGreatDoor.TQ
open Go.RowKit Go.Shelf Go.Proofs.YtbdknddgfmoipaaGreatDoorW.PrintWords Go.Proofs.YtbdknddgfmoipaaGreatDoorW.PrintLast Go.Proofs.YtbdknddgfmoipaaGreatDoorW.PrintMore
set_option linter.unusedVariables false
set_option linter.unusedSimpArgs false


section
variable {s : Sz} {y : Yz}
theorem two {d : Nat} (h : d < 2) : d = 0 ∨ d = 1 := by omega
theorem Inv.act (h : Inv y) (k n t : Int) (B : List Int) (hB : QA.Byt B) (ht : QA.I64 t) : Inv (y.act ⟨k, n, t, B⟩) := by
  by_cases q4 : k = 4
  · subst q4
    have hs : (y.act ⟨4, n, t, B⟩).s = y.s.turn 0 1 (((y.s.line 0).way 1).put B) := act4 n t B
    have w0 := act_wr4 (y := y) n t B
    have w1 : (y.act ⟨4, n, t, B⟩).wr 1 = y.wr 1 := by simp [Yz.act]
    have r : (y.act ⟨4, n, t, B⟩).rd = y.rd := by funext i; simp [Yz.act]
    refine h.of (by rw [hs]; rfl) (by rw [hs]; rfl) (by rw [hs]; rfl) (fun d hd => ?_) (fun d hd => ?_) (fun d hd => ?_)
    · rw [hs, src_turn]
      obtain rfl | rfl := two hd
      · rw [if_neg (by omega), w1]; exact h.wrote 0 hd
      · rw [if_pos ⟨rfl, rfl⟩, w0]
        have := h.wrote 1 hd
        rw [show y.wr 0 = y.wr (1 - 1) from rfl, this, List.append_assoc]; rfl
    · rw [hs, dst_turn, if_neg (by omega), r]; exact h.told d hd
    · rw [hs, src_turn]
      split
      · intro x hx
        rcases List.mem_append.1 hx with h1 | h1
        · exact h.byt 1 (by decide) x h1
        · exact hB x (List.mem_of_mem_take h1)
      · exact h.byt d hd
  by_cases q5 : k = 5
  · subst q5
    have hs : (y.act ⟨5, n, t, B⟩).s = y.s.turn 0 0 (((y.s.line 0).way 0).drop n) := act5 n t B
    have w : (y.act ⟨5, n, t, B⟩).wr = y.wr := by funext i; simp [Yz.act]
    have r0 := act_rd5 (y := y) n t B
    have r1 : (y.act ⟨5, n, t, B⟩).rd 1 = y.rd 1 := by simp [Yz.act]
    refine h.of (by rw [hs]; rfl) (by rw [hs]; rfl) (by rw [hs]; rfl) (fun d hd => ?_) (fun d hd => ?_) (fun d hd => ?_)
    · rw [hs, src_turn, if_neg (by omega), w]; exact h.wrote d hd
    · rw [hs, dst_turn]
      obtain rfl | rfl := two hd
      · rw [if_pos ⟨rfl, rfl⟩, r0, h.told 0 hd]
        have h1 : ((y.s.line 0).way 0).take n ++ (((y.s.line 0).way 0).drop n).xs = ((y.s.line 0).way 0).xs := List.take_append_drop _ _
        show y.rd 0 ++ ((y.s.line 0).way 0).xs ++ y.s.r.wait 0 = y.rd 0 ++ ((y.s.line 0).way 0).take n ++ (((y.s.line 0).way 0).drop n).xs ++ y.s.r.wait 0
        rw [← h1]; simp only [List.append_assoc]
      · rw [if_neg (by omega), r1]; exact h.told 1 hd
    · rw [hs, src_turn, if_neg (by omega)]; exact h.byt d hd
  by_cases q6 : k = 6
  · subst q6
    have hs : (y.act ⟨6, n, t, B⟩).s = y.s.turn 0 1 ((y.s.line 0).way 1).end_ := act6 n t B
    have w : (y.act ⟨6, n, t, B⟩).wr = y.wr := by funext i; simp [Yz.act]
    have r : (y.act ⟨6, n, t, B⟩).rd = y.rd := by funext i; simp [Yz.act]
    refine h.of (by rw [hs]; rfl) (by rw [hs]; rfl) (by rw [hs]; rfl) (fun d hd => ?_) (fun d hd => ?_) (fun d hd => ?_)
    · rw [hs, src_turn, w]
      split
      · rename_i hh; obtain rfl : d = 1 := hh.2; exact h.wrote 1 hd
      · exact h.wrote d hd
    · rw [hs, dst_turn, if_neg (by omega), r]; exact h.told d hd
    · rw [hs, src_turn]
      split
      · exact h.byt 1 (by decide)
      · exact h.byt d hd
  by_cases q7 : k = 7
  · subst q7
    have hs : (y.act ⟨7, n, t, B⟩).s = y.s.turn 1 0 (((y.s.line 1).way 0).put B) := act7 n t B
    have w1 := act_wr7 (y := y) n t B
    have w0 : (y.act ⟨7, n, t, B⟩).wr 0 = y.wr 0 := by simp [Yz.act]
    have r : (y.act ⟨7, n, t, B⟩).rd = y.rd := by funext i; simp [Yz.act]
    refine h.of (by rw [hs]; rfl) (by rw [hs]; rfl) (by rw [hs]; rfl) (fun d hd => ?_) (fun d hd => ?_) (fun d hd => ?_)
    · rw [hs, src_turn]
      obtain rfl | rfl := two hd
      · rw [if_pos ⟨rfl, rfl⟩, w1]
        have := h.wrote 0 hd
        rw [show y.wr 1 = y.wr (1 - 0) from rfl, this, List.append_assoc]; rfl
      · rw [if_neg (by omega), w0]; exact h.wrote 1 hd
    · rw [hs, dst_turn, if_neg (by omega), r]; exact h.told d hd
    · rw [hs, src_turn]
      split
      · intro x hx
        rcases List.mem_append.1 hx with h1 | h1
        · exact h.byt 0 (by decide) x h1
        · exact hB x (List.mem_of_mem_take h1)
      · exact h.byt d hd
  by_cases q8 : k = 8
  · subst q8
    have hs : (y.act ⟨8, n, t, B⟩).s = y.s.turn 1 1 (((y.s.line 1).way 1).drop n) := act8 n t B
    have w : (y.act ⟨8, n, t, B⟩).wr = y.wr := by funext i; simp [Yz.act]
    have r1 := act_rd8 (y := y) n t B
    have r0 : (y.act ⟨8, n, t, B⟩).rd 0 = y.rd 0 := by simp [Yz.act]
    refine h.of (by rw [hs]; rfl) (by rw [hs]; rfl) (by rw [hs]; rfl) (fun d hd => ?_) (fun d hd => ?_) (fun d hd => ?_)
    · rw [hs, src_turn, if_neg (by omega), w]; exact h.wrote d hd
    · rw [hs, dst_turn]
      obtain rfl | rfl := two hd
      · rw [if_neg (by omega), r0]; exact h.told 0 hd
      · rw [if_pos ⟨rfl, rfl⟩, r1, h.told 1 hd]
        have h1 : ((y.s.line 1).way 1).take n ++ (((y.s.line 1).way 1).drop n).xs = ((y.s.line 1).way 1).xs := List.take_append_drop _ _
        show y.rd 1 ++ ((y.s.line 1).way 1).xs ++ y.s.r.wait 1 = y.rd 1 ++ ((y.s.line 1).way 1).take n ++ (((y.s.line 1).way 1).drop n).xs ++ y.s.r.wait 1
        rw [← h1]; simp only [List.append_assoc]
    · rw [hs, src_turn, if_neg (by omega)]; exact h.byt d hd
  by_cases q9 : k = 9
  · subst q9
    have hs : (y.act ⟨9, n, t, B⟩).s = y.s.turn 1 0 ((y.s.line 1).way 0).end_ := act9 n t B
    have w : (y.act ⟨9, n, t, B⟩).wr = y.wr := by funext i; simp [Yz.act]
    have r : (y.act ⟨9, n, t, B⟩).rd = y.rd := by funext i; simp [Yz.act]
    refine h.of (by rw [hs]; rfl) (by rw [hs]; rfl) (by rw [hs]; rfl) (fun d hd => ?_) (fun d hd => ?_) (fun d hd => ?_)
    · rw [hs, src_turn, w]
      split
      · rename_i hh; obtain rfl : d = 0 := hh.2; exact h.wrote 0 hd
      · exact h.wrote d hd
    · rw [hs, dst_turn, if_neg (by omega), r]; exact h.told d hd
    · rw [hs, src_turn]
      split
      · exact h.byt 0 (by decide)
      · exact h.byt d hd
  · have hw : y.act ⟨k, n, t, B⟩ = { y with s := y.s.step k n t } := by
      have hor : k < 4 ∨ 9 < k := by omega
      unfold Yz.act
      rw [act_step hor]
      congr 1
      · funext i; rw [if_neg (by rintro ⟨h, _⟩; exact q4 h), if_neg (by rintro ⟨h, _⟩; exact q7 h)]
      · funext i; rw [if_neg (by rintro ⟨h, _⟩; exact q5 h), if_neg (by rintro ⟨h, _⟩; exact q8 h)]
    rw [hw]
    exact h.step k n ht
def yacts (y : Yz) (l : List QA.S32) : Yz := l.foldl Yz.act y
theorem yacts_s (y : Yz) (l : List QA.S32) : (yacts y l).s = acts y.s l := by
  induction l generalizing y with
  | nil => rfl
  | cons p l ih => exact ih (y.act p)
theorem tot0 : QA.tot r0.ev + r0.left = 262144 := by show QA.tot [] + 262144 = 262144; simp [QA.tot]
theorem inv0 (m : Nat) : Inv (y0 m) := by
  have hs : ∀ d, ((y0 m).s.src d).xs = [] := fun d => rfl
  have ht : ∀ d, ((y0 m).s.dst d).xs = [] := fun d => rfl
  refine ⟨fun x hx => absurd hx List.not_mem_nil, fun x hx => absurd hx List.not_mem_nil, Nat.zero_le _, tot0, fun d _ => ?_, fun d _ => ?_, fun d _ => ?_, ?_, fun _ => ⟨rfl, rfl⟩, fun x hx => absurd hx List.not_mem_nil, List.Pairwise.nil⟩
  · rw [hs]; rfl
  · rw [ht]; rfl
  · rw [hs]; intro x hx; cases hx
  · show QA.I64 0
    unfold QA.I64; omega
def InP (p : QA.S32) : Prop := QA.I64 p.f2 ∧ QA.Byt p.f3
theorem inv_acts (l : List QA.S32) (hl : ∀ p ∈ l, InP p) : ∀ y, Inv y → Inv (yacts y l) := by
  induction l with
  | nil => exact fun y h => h
  | cons p l ih =>
    intro y h
    have hp := hl p (List.mem_cons_self ..)
    exact ih (fun q hq => hl q (List.mem_cons_of_mem _ hq)) _ (h.act p.f0 p.f1 p.f2 p.f3 hp.2 hp.1)
theorem wr_len (y : Yz) (p : QA.S32) (i : Nat) : ((y.act p).wr i).length ≤ (y.wr i).length + p.f3.length := by
  simp only [Yz.act]
  split
  · rename_i h; rw [h.2, List.length_append, List.length_take]; omega
  · split
    · rename_i h; rw [h.2, List.length_append, List.length_take]; omega
    · omega
theorem wr_acts (l : List QA.S32) (hl : ∀ p ∈ l, p.f3.length ≤ 100) : ∀ (y : Yz) (i : Nat), ((yacts y l).wr i).length ≤ (y.wr i).length + 100 * l.length := by
  induction l with
  | nil => intro y i; show (y.wr i).length ≤ _; omega
  | cons p l ih =>
    intro y i
    have h1 := ih (fun q hq => hl q (List.mem_cons_of_mem _ hq)) (y.act p) i
    have h2 := wr_len y p i
    have h3 := hl p (List.mem_cons_self ..)
    show ((yacts (y.act p) l).wr i).length ≤ _
    rw [List.length_cons]; omega
theorem Inv.rd_len (h : Inv y) {d : Nat} (hd : d < 2) : (y.rd d).length ≤ 262144 := by
  have h1 := congrArg List.length (h.told d hd)
  have h2 := noted_len (d : Int) y.s.r.ev
  have h3 := h.tot
  simp only [List.length_append] at h1
  omega
theorem Inv.good (h : Inv y) : QA.Good y.s.r.ev := ⟨h.cnt, h.ok, by have := h.tot; omega⟩
end
end Go.Proofs.YtbdknddgfmoipaaGreatDoor.TQ
namespace Go.Proofs.YtbdknddgfmoipaaGreatDoor.TQ
open Go.RowKit Go.Shelf Go.Proofs.YtbdknddgfmoipaaGreatDoorW.PrintWords Go.Proofs.YtbdknddgfmoipaaGreatDoorW.PrintLast Go.Proofs.YtbdknddgfmoipaaGreatDoorW.PrintMore
set_option linter.unusedVariables false
set_option linter.unusedSimpArgs false


section
theorem great_l0 (l : List QA.S32) (hl : l.length ≤ 150) (d : Nat) : ∀ i k : Nat, i + d = l.length → d < k → QA.cuecardlaw22_Great.l0 k l (l.length : Int) (i : Int) = some 1 ∨ (QA.cuecardlaw22_Great.l0 k l (l.length : Int) (i : Int) = some 0 ∧ ∀ p ∈ l.drop i, p.f3.length ≤ 100) := by
  induction d with
  | zero =>
    intro i k hi hk
    obtain ⟨k, rfl⟩ : ∃ m, k = m + 1 := ⟨k - 1, by omega⟩
    right
    refine ⟨?_, ?_⟩
    · unfold QA.cuecardlaw22_Great.l0
      rw [if_neg (by omega)]
    · rw [List.drop_eq_nil_of_le (by omega)]; intro p hp; cases hp
  | succ d ih =>
    intro i k hi hk
    obtain ⟨k, rfl⟩ : ∃ m, k = m + 1 := ⟨k - 1, by omega⟩
    have hlt : i < l.length := by omega
    have hrd : QA.rd_T32 l (i : Int) = l[i] := by unfold QA.rd_T32; simp [List.getD_eq_getElem?_getD, List.getElem?_eq_getElem hlt]
    have hwi : wrap64 ((i : Int) + 1) = ((i + 1 : Nat) : Int) := by unfold wrap64; omega
    unfold QA.cuecardlaw22_Great.l0
    rw [if_pos (by omega), if_pos (by omega), if_pos (by omega), hrd, hwi]
    by_cases h : ((l[i].f3.length : Nat) : Int) > 100
    · rw [if_pos h]; exact .inl rfl
    · rw [if_neg h]
      rcases ih (i + 1) k (by omega) (by omega) with h1 | ⟨h1, h2⟩
      · exact .inl h1
      · refine .inr ⟨h1, fun p hp => ?_⟩
        rw [List.drop_eq_getElem_cons hlt] at hp
        rcases List.mem_cons.1 hp with rfl | hp
        · omega
        · exact h2 p hp
theorem great_f (l : List QA.S32) : ∃ k, QA.cuecardlaw22_Great.f k l = some 1 ∨ (QA.cuecardlaw22_Great.f k l = some 0 ∧ l.length ≤ 150 ∧ ∀ p ∈ l, p.f3.length ≤ 100) := by
  refine ⟨l.length + 1, ?_⟩
  unfold QA.cuecardlaw22_Great.f
  by_cases h : (l.length : Int) > 150
  · rw [if_pos h]; exact .inl rfl
  · rw [if_neg h]
    rcases great_l0 l (by omega) l.length 0 (l.length + 1) (by omega) (by omega) with h1 | ⟨h1, h2⟩
    · exact .inl h1
    · exact .inr ⟨h1, by omega, by simpa using h2⟩
theorem noted_cons (a : Int) (x : QA.S42) (r : List QA.S42) : noted a (x :: r) = (if x.f0 = a then x.f2 else []) ++ noted a r := by unfold noted; simp
theorem bytes_l0 (a : Int) (l : List QA.S42) (hl : l.length ≤ 4096) (d : Nat) : ∀ (i k : Nat) (out : List Int), i + d = l.length → d < k → out.length + QA.tot (l.drop i) ≤ 1000000 → QA.cuecardref04_Bytes.l0 k a l out (i : Int) = some (out ++ noted a (l.drop i)) := by
  induction d with
  | zero =>
    intro i k out hi hk ho
    obtain ⟨k, rfl⟩ : ∃ m, k = m + 1 := ⟨k - 1, by omega⟩
    unfold QA.cuecardref04_Bytes.l0
    rw [if_neg (by omega), List.drop_eq_nil_of_le (by omega)]
    simp [noted]
  | succ d ih =>
    intro i k out hi hk ho
    obtain ⟨k, rfl⟩ : ∃ m, k = m + 1 := ⟨k - 1, by omega⟩
    have hlt : i < l.length := by omega
    have hrd : QA.rd_T42 l (i : Int) = l[i] := by unfold QA.rd_T42; simp [List.getD_eq_getElem?_getD, List.getElem?_eq_getElem hlt]
    have hwi : wrap64 ((i : Int) + 1) = ((i + 1 : Nat) : Int) := by unfold wrap64; omega
    have hd := List.drop_eq_getElem_cons hlt
    rw [hd, QA.tot_cons] at ho
    unfold QA.cuecardref04_Bytes.l0
    rw [if_pos (by omega), if_pos (by omega), hrd, hwi, hd]
    rw [noted_cons]
    by_cases h : l[i].f0 = a
    · rw [if_pos h, if_pos h, if_pos (by omega), ih (i + 1) k _ (by omega) (by omega) (by rw [List.length_append]; omega), List.append_assoc]
    · rw [if_neg h, if_neg h, ih (i + 1) k _ (by omega) (by omega) (by omega), List.nil_append]
theorem bytes_f (a : Int) (l : List QA.S42) (hl : l.length ≤ 4096) (ht : QA.tot l ≤ 262144) : QA.cuecardref04_Bytes.f (l.length + 1) a l = some (noted a l) := by
  have := bytes_l0 a l hl l.length 0 (l.length + 1) [] (by omega) (by omega) (by rw [List.drop_zero]; show 0 + QA.tot l ≤ 1000000; omega)
  rw [List.drop_zero, List.nil_append] at this
  exact this
theorem begins_f (xs zs : List Int) : QA.cuecardtop_begins.f (strOfNums xs) (strOfNums (xs ++ zs)) = some true := by
  unfold QA.cuecardtop_begins.f
  rw [strOfNums_size, strOfNums_size, List.length_append, if_pos (by omega), if_pos (by omega)]
  have h : (strOfNums (xs ++ zs)).extract 0 xs.length = strOfNums xs := by
    apply ByteArray.ext
    rw [← str_append, ByteArray.data_extract, ByteArray.data_append]
    have hs : xs.length = (strOfNums xs).data.size := by rw [← ByteArray.size, strOfNums_size]
    rw [hs, Array.extract_append]
    simp
  simp only [Int.toNat_natCast]
  rw [h]
  simp
end
end Go.Proofs.YtbdknddgfmoipaaGreatDoor.TQ
