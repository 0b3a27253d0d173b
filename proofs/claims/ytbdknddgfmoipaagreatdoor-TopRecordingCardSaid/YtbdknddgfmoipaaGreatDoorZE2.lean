import Derived.Lib.UnsafeStr
import Derived.Laws.RangeString
import Derived.Laws.Externs
import Derived.Test.YtbdknddgfmoipaaGreatDoorZE1
set_option linter.unusedVariables false
set_option linter.unusedSimpArgs false
/- The evaluator: append, copy. -/
namespace Go.Ev
open Go

section
variable {c : Cx} {P : Program} {R : Rel} {s : St} {w : World}

theorem lenOf_ok {x x' : Value} {L : Nat} (hx : V R x x') (hL : lenA x = some L) : (Builtin.lenOf x').run P w = .ok L w := by
  unfold lenA at hL
  split at hL
  · rename_i a n cp
    cases hL
    cases a with
    | none => obtain ⟨rfl, rfl, rfl⟩ := hx.inv_slice_nil; rfl
    | some a =>
      cases hx with
      | ground h => simp [g0] at h
      | slice _ _ _ => rfl
      | opn _ _ _ => rfl
      | emp => rfl
  · rename_i b
    cases hL
    have := hx.inv_string
    subst this
    rw [len_eq]; rfl
  · cases hL

theorem firstCells_slice {size n : Nat} {a : Addr} {l k : Nat} : Builtin.firstCells size n (.slice (some a) l k) = loadCells a (n * size) := rfl

theorem cell_heap {w w' : World} {a : Addr} (h : w'.heap = w.heap) : w'.cell? a = w.cell? a := by
  unfold World.cell?; rw [h]
theorem source_ok (hW : WR c R s w) {x x' : Value} {size n L : Nat} {xs : List Value} (hx : V R x x') (hL : lenA x = some L) (hn : n ≤ L) (h : sourceA s size n x = some xs) :
    ∃ vs, VL R xs vs ∧ ∀ w' : World, w'.heap = w.heap → (Builtin.firstCells size n x').run c.P w' = .ok ⟨vs⟩ w' := by
  unfold sourceA at h
  split at h
  · rename_i i off l cp
    cases hL
    cases hb : Nat.beq n 0 with
    | true =>
      rw [hb, cond_true] at h
      cases h
      have hn0 := Nat.eq_of_beq_eq_true hb
      subst hn0
      obtain ⟨a', n', c', rfl⟩ := hx.inv_slice_some
      refine ⟨[], .nil, fun w' _ => ?_⟩
      rw [firstCells_slice, Nat.zero_mul]
      rfl
    | false =>
      rw [hb, cond_false] at h
      have hn0 := nbeq hb
      rcases hx.inv_slice with ⟨_, _, m, hm, rfl⟩ | ⟨_, m, hm, _, rfl⟩ | ⟨_, rfl, _⟩
      · obtain ⟨vs, h1, h2, _, h4⟩ := read_cells hW hm h
        exact ⟨vs, h1, fun w' hw => by rw [firstCells_slice]; exact run_loadCells_blk h2 fun j v hj => by rw [cell_heap hw]; exact h4 j v hj⟩
      · obtain ⟨vs, h1, h2, _, h4⟩ := read_cells hW hm h
        exact ⟨vs, h1, fun w' hw => by rw [firstCells_slice]; exact run_loadCells_blk h2 fun j v hj => by rw [cell_heap hw]; exact h4 j v hj⟩
      · omega
  · obtain ⟨hb, h⟩ := cond_some h
    cases h
    obtain ⟨rfl, _, _⟩ := hx.inv_slice_nil
    exact ⟨[], .nil, fun _ _ => rfl⟩
  · rename_i b
    cases hL
    have := hx.inv_string
    subst this
    split at h
    · rename_i l hl
      cases h
      rw [take_eq] at hl
      split at hl
      · cases hl
        rw [map_eq]
        refine ⟨_, VL.ground _ ?_, fun w' _ => ?_⟩
        · intro v hv
          obtain ⟨z, _, rfl⟩ := List.mem_map.1 hv
          rfl
        · show Result.ok ((b.extract 0 n).data.map fun z => Value.int .u8 z.toNat) w' = _
          congr 1
          apply Array.ext'
          cases b with
          | mk d =>
            simp [ByteArray.data_extract, Array.toList_extract, List.extract]
            rfl
      · cases hl
    · cases h
  · cases h

def isIntD : TypeDesc → Bool
  | .int _ => true
  | _ => false
theorem notInt_some {t : TypeId} (h : notInt P t = true) : ∃ d, P.underlying t = some d ∧ isIntD d = false := by
  unfold notInt at h
  split at h
  · cases h
  · rename_i d hd hu
    refine ⟨d, hu, ?_⟩
    cases d <;> first | rfl | exact absurd rfl (hd _)
  · cases h
theorem run_append_in {ts : Array TypeId} {ty t t2 e : TypeId} {size n m cp : Nat} {x' : Value} {a : Addr} {vs : List Value} {w' : World} (h0 : ts[0]? = some t) (h1 : ts[1]? = some t2) (hu : P.underlying t = some (.slice e)) (hs : sizeA P e = some size) (h2 : notInt P t2 = true)
    (hl : (Builtin.lenOf x').run P w = .ok m w) (hf : (Builtin.firstCells size m x').run P w = .ok ⟨vs⟩ w) (hle : n + m ≤ cp) (hst : (storeCells (a.add (n * size)) vs).run P w = .ok () w') :
    (Builtin.append_ ts ty #[.slice (some a) n cp, x']).run P w = .ok (.slice (some a) (n + m) cp) w' := by
  obtain ⟨d, hd, hb⟩ := notInt_some h2
  have hz := hb
  simp only [Builtin.append_, h0, h1, List.getElem?_toArray, List.getElem?_cons_zero, List.getElem?_cons_succ, Sem.run_bind, run_underlyingA hu, run_underlyingA hd, run_sizeA hs, Result.andThen_ok, Sem.run_pure]
  cases d <;> first | (simp [isIntD] at hz; done) | simp [hl, hf, hle, hst]

theorem run_append_zero {ts : Array TypeId} {ty t t2 e : TypeId} {size n cp : Nat} {x' : Value} {b : Option Addr} (h0 : ts[0]? = some t) (h1 : ts[1]? = some t2) (hu : P.underlying t = some (.slice e)) (hs : sizeA P e = some size) (h2 : notInt P t2 = true)
    (hl : (Builtin.lenOf x').run P w = .ok 0 w) (hf : (Builtin.firstCells size 0 x').run P w = .ok #[] w) (hle : n ≤ cp) :
    (Builtin.append_ ts ty #[.slice b n cp, x']).run P w = .ok (.slice b n cp) w := by
  obtain ⟨d, hd, hb⟩ := notInt_some h2
  have hz := hb
  simp only [Builtin.append_, h0, h1, List.getElem?_toArray, List.getElem?_cons_zero, List.getElem?_cons_succ, Sem.run_bind, run_underlyingA hu, run_underlyingA hd, run_sizeA hs, Result.andThen_ok, Sem.run_pure]
  cases b <;> cases d <;> first | (simp [isIntD] at hz; done) | simp [hl, hf, hle, storeCells]

theorem growBy_le (newLen : Nat) : ∀ (k c : Nat), Builtin.growBy newLen (k + 1) c = if c ≥ newLen then c else Builtin.growBy newLen k (c + (c + 768) / 4) := fun _ _ => rfl
theorem nextcap_le {need cp : Nat} (h : cp < need) (hn : need ≤ 1048576) : Builtin.nextslicecap need cp ≤ 8388608 := by
  unfold Builtin.nextslicecap
  split
  · omega
  · split
    · omega
    · have e4 : Builtin.growBy need 4 cp ≤ 8388608 := by
        simp only [Builtin.growBy]
        repeat' split
        all_goals omega
      exact e4

theorem run_append_out {ts : Array TypeId} {ty t t2 e : TypeId} {size n m cp : Nat} {x' : Value} {b : Option Addr} {os vs z : List Value} (h0 : ts[0]? = some t) (h1 : ts[1]? = some t2) (hu : P.underlying t = some (.slice e)) (hs : sizeA P e = some size) (h2 : notInt P t2 = true)
    (hz : zeroA P e = some z) (hzl : z.length = size) (hby : bytesOk P e 8388608 = true)
    (hl : (Builtin.lenOf x').run P w = .ok m w) (hf : ∀ w', w'.heap = w.heap → (Builtin.firstCells size m x').run P w' = .ok ⟨vs⟩ w') (ho : ∀ w', w'.heap = w.heap → (Builtin.firstCells size n (.slice b n cp)).run P w' = .ok ⟨os⟩ w') (hgt : cp < n + m) (hsm : n + m ≤ 1048576) :
    ∃ C rest w1, n + m ≤ C ∧ rest.length = (C - (n + m)) * size ∧ w1.heap = w.heap ∧ rst w1 = rst w ∧
      (Builtin.append_ ts ty #[.slice b n cp, x']).run P w = .ok (.slice (some ⟨w.heap.size, 0, none⟩) (n + m) C) (pushH w1 (.cells ⟨os ++ vs ++ rest⟩ e)) := by
  obtain ⟨d, hd, hb⟩ := notInt_some h2
  have hzd := hb
  obtain ⟨i, u, hi, hzu, hcu, _⟩ := zeroA_some hz
  have hcu' : u.cells = ⟨z⟩ := by rw [← hcu]
  have hi63 : IntKind.i64.max = 9223372036854775807 := rfl
  unfold bytesOk at hby
  rw [hi] at hby
  have hby := le_of_ble hby
  have hnx := nextcap_le hgt hsm
  have hover : ¬ ((i.bytes * Builtin.nextslicecap (n + m) cp) > 2 ^ 48) := by
    have := Nat.mul_le_mul_left i.bytes hnx
    omega
  have hov2 : ¬ (Builtin.nextslicecap (n + m) cp * i.bytes > 2 ^ 48) := by rw [Nat.mul_comm]; exact hover
  have hov3 : ¬ (281474976710656 < Builtin.nextslicecap (n + m) cp * i.bytes) := hov2
  have hno : ¬ (((n + m : Nat) : Int) > IntKind.i64.max) := by rw [hi63]; omega
  have hno' : ¬ (IntKind.i64.max < (n : Int) + (m : Int)) := by rw [hi63]; omega
  have hle : ¬ (n + m ≤ cp) := by omega
  have hno2 : ¬ (9223372036854775807 < (n : Int) + (m : Int)) := by omega
  have hfor : (Question.appendCap (n + m) cp e).forced = false := rfl
  let w1 : World := w.drew
  let C : Nat := (Question.appendCap (n + m) cp e).cut (w.tape w.drawn (.appendCap (n + m) cp e))
  refine ⟨C, (Builtin.zeroCells ⟨z⟩ (C - (n + m))).toList, w1, ?_, ?_, rfl, rfl, ?_⟩
  · simp only [C, Question.cut]; omega
  · simp [Builtin.zeroCells, hzl]
  · simp only [Builtin.append_, h0, h1, List.getElem?_toArray, List.getElem?_cons_zero, List.getElem?_cons_succ, Sem.run_bind, run_underlyingA hu, run_underlyingA hd, run_sizeA hs, Result.andThen_ok, Sem.run_pure]
    have hf1 := hf w.drew rfl
    have ho1 := ho w.drew rfl
    have hzv : (zeroValue e).run P w.drew = .ok u w.drew := run_zeroA hi hzu
    cases d <;> first | (simp [isIntD] at hzd; done) | (simp [hl, hle, run_infoA hi, hno2, hov3, hfor, hf1, ho1, hzv, hcu', newRow, w1]; exact ⟨rfl, congrArg (fun q => pushH w.drew (Obj.cells q e)) (Array.ext' (by simp [C]))⟩)
end
end Go.Ev
/- The evaluator: append and copy, whole. -/
namespace Go.Ev
open Go

section
variable {c : Cx} {P : Program} {R : Rel} {s : St} {w : World}

theorem first0 {x x' : Value} {size L : Nat} (hx : V R x x') (hL : lenA x = some L) : (Builtin.firstCells size 0 x').run P w = .ok #[] w := by
  unfold lenA at hL
  split at hL
  · rename_i a n cp
    cases a with
    | none => obtain ⟨rfl, _, _⟩ := hx.inv_slice_nil; rfl
    | some a =>
      obtain ⟨_, _, _, rfl⟩ := hx.inv_slice_some
      rw [firstCells_slice, Nat.zero_mul]; rfl
  · rename_i b
    have := hx.inv_string
    subst this
    show Result.ok ((b.extract 0 0).data.map fun z => Value.int .u8 z.toNat) w = _
    congr 1
    apply Array.ext'
    cases b with
    | mk d => simp [ByteArray.data_extract]
  · cases hL

/-- what an append's words are -/
structure ApT (P : Program) (ts : Array TypeId) (t t2 e size : Nat) (z : List Value) : Prop where
  h0 : ts[0]? = some t
  h1 : ts[1]? = some t2
  hu : P.underlying t = some (.slice e)
  hs : sizeA P e = some size
  h2 : notInt P t2 = true
  hz : zeroA P e = some z
  hzl : z.length = size
  hby : bytesOk P e 8388608 = true
  pos : 0 < size

/-- a row that was moved to a new place -/
theorem out_new (hW : WR c R s w) {ts : Array TypeId} {ty t t2 e size n m cp : Nat} {z : List Value} (T : ApT c.P ts t t2 e size z) {x' : Value} {b : Option Addr} {old news os vs : List Value}
    (hl : (Builtin.lenOf x').run c.P w = .ok m w) (hf : ∀ w', w'.heap = w.heap → (Builtin.firstCells size m x').run c.P w' = .ok ⟨vs⟩ w') (ho : ∀ w', w'.heap = w.heap → (Builtin.firstCells size n (.slice b n cp)).run c.P w' = .ok ⟨os⟩ w')
    (hnv : VL R news vs) (hov : VL R old os) (hnl : news.length = m * size) (hol : old.length = n * size) (hgt : cp < n + m) (hsm : n + m ≤ 1048576) (fz : Nat) (hfz : fz ≤ 1) :
    ∃ r' w' R', (Builtin.append_ ts ty #[.slice b n cp, x']).run c.P w = .ok r' w' ∧ V R' (.slice (some ⟨s.n, 0, none⟩) (n + m) OPEN) r' ∧ WR c R' (s.new (.cells (app old news) e fz true)) w' ∧ Ext R R' s (s.new (.cells (app old news) e fz true)) := by
  obtain ⟨C, rest, w1, h1, h2, h3, h3r, h4⟩ := run_append_out (ty := ty) T.h0 T.h1 T.hu T.hs T.h2 T.hz T.hzl T.hby hl hf ho hgt hsm
  have hW1 : WR c R s w1 := hW.heap h3 h3r
  have hos : os.length = n * size := by rw [← hov.length, hol]
  have hvs : vs.length = m * size := by rw [← hnv.length, hnl]
  have hlen : (os ++ vs ++ rest).length = C * size := by
    simp only [List.length_append, hos, hvs, h2]
    rw [← Nat.add_mul, ← Nat.add_mul]
    congr 1; omega
  have hok : OK c.P R ⟨w1.heap.size, 0, C⟩ (.cells (app old news) e fz true) (.cells ⟨os ++ vs ++ rest⟩ e) := by
    refine ⟨os ++ vs ++ rest, (0, 0), rfl, ?_, ?_, ?_, fun _ => ⟨size, T.hs, by rw [hlen]; simp⟩, (fun h => by cases h)⟩
    · match fz, hfz with
      | 0, _ => rfl
      | 1, _ => exact .inl rfl
    · rw [app_eq]; simp [hol, hnl, hos, hvs]
    · rw [app_eq]
      have : ((os ++ vs ++ rest).drop 0).take (old ++ news).length = os ++ vs := by
        rw [List.drop_zero, List.take_left' (by simp [hol, hnl, hos, hvs])]
      simp only [this]
      exact hov.append hnv
  have hn := hW1.new hok
  refine ⟨_, _, _, h4, ?_, hn.1, hn.2⟩
  have := V.opn (R := R.add s.n ⟨w1.heap.size, 0, C⟩) (o := 0) (n := n + m) (c := OPEN) Rel.add_same (by decide) (by simpa using h1)
  simpa [h3] using this

theorem in_place (hW : WR c R s w) {ts : Array TypeId} {ty t t2 e size n m k : Nat} {z : List Value} (T : ApT c.P ts t t2 e size z) {x' : Value} {i off cp : Nat} {im : Img} {e' fz : Nat} {o : Bool} {cs news vs : List Value} {v' : Value} {s' : St} {r : Value}
    (hi : R i = some im) (hg : s.get i = some (.cells cs e' fz o)) (hN : NG ≤ i) (hfz : fz ≤ 1) (hone : ∀ v ∈ news, oneC v = true) (hnv : VL R news vs)
    (hl : (Builtin.lenOf x').run c.P w = .ok m w) (hf : (Builtin.firstCells size m x').run c.P w = .ok ⟨vs⟩ w) (hv' : v' = .slice (some ⟨im.b, im.base + off, none⟩) n cp) (hle : n + m ≤ cp)
    (hr : V R (.slice (some ⟨i, off, none⟩) (n + m) k) (.slice (some ⟨im.b, im.base + off, none⟩) (n + m) cp))
    (h : appIn i off n m k size cs news e' fz o s = .v r s') :
    ∃ r' w' R', (Builtin.append_ ts ty #[v', x']).run c.P w = .ok r' w' ∧ V R' r r' ∧ WR c R' s' w' ∧ Ext R R' s s' := by
  unfold appIn at h
  split at h
  · rename_i cs' hsp
    cases h
    have hwr : writeCells s i (off + n * size) news = some (s.put i (.cells cs' e' fz o)) := by
      unfold writeCells
      rw [hg]
      simp only [hsp]
      have : (own i && Nat.ble fz 1 && all oneC news) = true := by
        simp only [own, Bool.and_eq_true, all_eq, List.all_eq_true]
        exact ⟨⟨by simpa [Nat.ble_eq] using hN, by simpa [Nat.ble_eq] using hfz⟩, hone⟩
      rw [this]
    obtain ⟨w', h1, h2, h3⟩ := write_cells hW hi hnv hwr
    subst hv'
    refine ⟨_, w', R, run_append_in T.h0 T.h1 T.hu T.hs T.h2 hl hf hle ?_, hr, h2, h3⟩
    rw [addr_add, Nat.add_assoc]; exact h1
  · cases h

theorem app_open (hW : WR c R s w) {ts : Array TypeId} {ty t t2 e size n m : Nat} {z : List Value} (T : ApT c.P ts t t2 e size z) {x' : Value} {i off k : Nat} {im : Img} {fz : Nat} {cs news vs : List Value} {s' : St} {r : Value}
    (hi : R i = some im) (hg : s.get i = some (.cells cs e fz true)) (hN : NG ≤ i) (hfz : fz ≤ 1) (hone : ∀ v ∈ news, oneC v = true) (hnv : VL R news vs) (hnl : news.length = m * size) (hsm : n + m ≤ 1048576)
    (hl : (Builtin.lenOf x').run c.P w = .ok m w) (hf : ∀ w' : World, w'.heap = w.heap → (Builtin.firstCells size m x').run c.P w' = .ok ⟨vs⟩ w') (hop : isOpen k = true) (hcap : OPEN - k + n ≤ im.cap)
    (h : appOpen i off n m k size cs news e fz s = .v r s') :
    ∃ r' w' R', (Builtin.append_ ts ty #[.slice (some ⟨im.b, im.base + off, none⟩) n (im.cap - (OPEN - k)), x']).run c.P w = .ok r' w' ∧ V R' r r' ∧ WR c R' s' w' ∧ Ext R R' s s' := by
  unfold appOpen at h
  cases hb : Nat.beq off ((OPEN - k) * size) with
  | false => rw [hb] at h; cases h
  | true =>
    rw [hb, cond_true] at h
    have hoff := Nat.eq_of_beq_eq_true hb
    obtain ⟨ys, fr, y1, y2, y3, y4, y5, _⟩ := hW.cells hi hg
    obtain ⟨sz, hsz, hyl⟩ := y5 rfl
    rw [T.hs] at hsz; cases hsz
    cases hb2 : Nat.ble (off + (n + m) * size) (len cs) with
    | true =>
      rw [hb2, cond_true] at h
      have hle := le_of_ble hb2
      rw [len_eq] at hle
      have hcap2 : OPEN - k + (n + m) ≤ im.cap := by
        have : ((OPEN - k) + (n + m)) * size ≤ im.cap * size := by rw [Nat.add_mul, ← hoff]; omega
        exact Nat.le_of_mul_le_mul_right this T.pos
      exact in_place (k := k) hW T hi hg hN hfz hone hnv hl (hf w rfl) rfl (by omega) (.opn hi hop hcap2) h
    | false =>
      rw [hb2, cond_false] at h
      unfold appOut at h
      split at h
      · rename_i old hold
        simp only [cond_true] at h
        cases h
        rw [drop_eq] at hold
        obtain ⟨hle, hoe, _⟩ := VL.take' (y4.drop off) hold
        rw [List.length_drop] at hle
        have hrd : readCells s i off (n * size) = some old := by unfold readCells; rw [hg]; simp only [drop_eq]; exact hold
        obtain ⟨os, o1, o2, o3, o4⟩ := read_cells hW hi hrd
        have hos : os = (ys.drop (im.base + off)).take (n * size) := by
          apply List.ext_getElem?
          intro j
          rw [List.getElem?_take]
          split
          · rename_i hj
            have hj' : j < os.length := by omega
            have := o4 j _ (List.getElem?_eq_getElem hj')
            rw [cell_cells y1] at this
            rw [List.getElem?_drop, this, List.getElem?_eq_getElem hj']
          · rw [List.getElem?_eq_none (by omega)]
        by_cases hfit : n + m ≤ im.cap - (OPEN - k)
        · -- it lies where it lay
          have hvl : vs.length = m * size := by rw [← hnv.length, hnl]
          have hroom : im.base + off + n * size + vs.length ≤ ys.length := by
            rw [hyl, hvl, hoff]
            have : ((OPEN - k) + (n + m)) * size ≤ im.cap * size := Nat.mul_le_mul_right _ (by omega)
            rw [Nat.add_mul, Nat.add_mul] at this
            omega
          obtain ⟨w', r1, r2, r3⟩ := run_storeCells_blk (P := c.P) im.b (im.base + off + n * size) e fr vs 0 ys w y1 (by omega) (fun j a d => by
            have : j < ys.length := by omega
            rintro ⟨p, q⟩
            match fz, hfz, y2 with
            | 0, _, y2 => simp only [FZ] at y2; omega
            | 1, _, y2 => simp only [FZ] at y2; omega
            | k + 2, hfz, _ => omega) (hnv.oneC hone)
          simp only [Nat.add_zero] at r2
          have hmv := hW.move (o' := .cells (app old news) e fz true) (ob' := .cells ⟨ys.take (im.base + off + n * size) ++ vs ++ ys.drop (im.base + off + n * size + vs.length)⟩ e fr)
            (base := im.base + off) (cap := im.cap - (OPEN - k)) hi hg hN ?_
          · refine ⟨_, w', _, run_append_in T.h0 T.h1 T.hu T.hs T.h2 hl (hf w rfl) hfit (by rw [addr_add]; exact r1), ?_, hmv.1.heap r2 (r3.trans rfl), hmv.2⟩
            have := V.opn (R := R.add s.n ⟨im.b, im.base + off, im.cap - (OPEN - k)⟩) (o := 0) (n := n + m) (c := OPEN) Rel.add_same (by decide) (by simpa using hfit)
            simpa using this
          · have hyl' : (ys.take (im.base + off + n * size) ++ vs ++ ys.drop (im.base + off + n * size + vs.length)).length = ys.length := by simp; omega
            refine ⟨_, fr, rfl, by rw [hyl']; exact y2, ?_, ?_, fun _ => ⟨size, T.hs, ?_⟩, (fun h => by cases h)⟩
            · rw [hyl', app_eq]; simp only [List.length_append, o3, hnl]; omega
            · rw [app_eq]
              have : ((ys.take (im.base + off + n * size) ++ vs ++ ys.drop (im.base + off + n * size + vs.length)).drop (im.base + off)).take (old ++ news).length = os ++ vs := by
                rw [hos]
                apply List.ext_getElem?
                intro j
                simp only [List.getElem?_take, List.getElem?_drop, List.getElem?_append, List.length_take, List.length_append, List.length_drop, o3, hnl]
                repeat' split
                all_goals first | (exfalso; omega) | rfl | (congr 1 <;> omega) | (symm; apply List.getElem?_eq_none; omega) | (apply List.getElem?_eq_none; omega)
              simp only [this]
              exact o1.append hnv
            · rw [hyl', hyl, hoff, Nat.sub_mul im.cap (OPEN - k) size]
              have : (OPEN - k) * size ≤ im.cap * size := Nat.mul_le_mul_right _ (by omega)
              simp only
              generalize (OPEN - k) * size = q at *
              generalize im.cap * size = p at *
              omega
        · have hk := hW.kill hi
          obtain ⟨r', w', R', a1, a2, a3, a4⟩ := out_new (ty := ty) (b := some ⟨im.b, im.base + off, none⟩) hk.1 T hl hf (fun w' hw => by
            rw [firstCells_slice]
            exact run_loadCells_blk o2 fun j v hj => by rw [cell_heap hw]; exact o4 j v hj) hnv o1 hnl o3 (Nat.lt_of_not_le hfit) hsm fz hfz
          exact ⟨r', w', R', a1, a2, a3, hk.2.trans a4⟩
      · cases h

theorem app_shut (hW : WR c R s w) {ts : Array TypeId} {ty t t2 e size n m : Nat} {z : List Value} (T : ApT c.P ts t t2 e size z) {x' : Value} {i off k e' : Nat} {im : Img} {fz : Nat} {o : Bool} {cs news vs : List Value} {s' : St} {r : Value}
    (hi : R i = some im) (hg : s.get i = some (.cells cs e' fz o)) (hN : NG ≤ i) (hfz : fz ≤ 1) (hone : ∀ v ∈ news, oneC v = true) (hnv : VL R news vs) (hnl : news.length = m * size) (hsm : n + m ≤ 1048576)
    (hl : (Builtin.lenOf x').run c.P w = .ok m w) (hf : ∀ w' : World, w'.heap = w.heap → (Builtin.firstCells size m x').run c.P w' = .ok ⟨vs⟩ w') (hk : k < SH)
    (h : appShut i off n m k size cs news e e' fz o s = .v r s') :
    ∃ r' w' R', (Builtin.append_ ts ty #[.slice (some ⟨im.b, im.base + off, none⟩) n k, x']).run c.P w = .ok r' w' ∧ V R' r r' ∧ WR c R' s' w' ∧ Ext R R' s s' := by
  unfold appShut at h
  cases hb : Nat.ble (n + m) k with
  | true =>
    rw [hb, cond_true] at h
    have hle := le_of_ble hb
    exact in_place (k := k) hW T hi hg hN hfz hone hnv hl (hf w rfl) rfl hle (.slice hi hk hle) h
  | false =>
    rw [hb, cond_false] at h
    have hgt := nble hb
    cases hb2 : Nat.ble n k with
    | false => rw [hb2] at h; cases h
    | true =>
      rw [hb2, cond_true] at h
      unfold appOut at h
      split at h
      · rename_i old hold
        simp only [cond_false] at h
        cases h
        have hrd : readCells s i off (n * size) = some old := by unfold readCells; rw [hg]; exact hold
        obtain ⟨os, o1, o2, o3, o4⟩ := read_cells hW hi hrd
        exact out_new (ty := ty) (b := some ⟨im.b, im.base + off, none⟩) hW T hl hf (fun w' hw => by
          rw [firstCells_slice]
          exact run_loadCells_blk o2 fun j v hj => by rw [cell_heap hw]; exact o4 j v hj) hnv o1 hnl o3 (Nat.lt_of_not_le hgt) hsm 0 (Nat.zero_le _)
      · cases h

theorem app_go (hW : WR c R s w) {ts : Array TypeId} {ty t t2 e size n m k : Nat} {z : List Value} (T : ApT c.P ts t t2 e size z) {x x' : Value} {base : Option Addr} {news vs : List Value} {s' : St} {r v' : Value}
    (hv : V R (.slice base n k) v') (hx : V R x x') (hl : (Builtin.lenOf x').run c.P w = .ok m w) (hm : lenA x = some m) (hnv : VL R news vs) (hf : ∀ w' : World, w'.heap = w.heap → (Builtin.firstCells size m x').run c.P w' = .ok ⟨vs⟩ w')
    (h : appGo e size base n k m (.slice base n k) news s = .v r s') :
    ∃ r' w' R', (Builtin.append_ ts ty #[v', x']).run c.P w = .ok r' w' ∧ V R' r r' ∧ WR c R' s' w' ∧ Ext R R' s s' := by
  unfold appGo at h
  cases hb : Nat.beq m 0 with
  | true =>
    rw [hb, cond_true] at h
    cases h
    have hm0 := Nat.eq_of_beq_eq_true hb
    subst hm0
    have h00 := first0 (P := c.P) (w := w) (size := size) hx hm
    have go : ∀ b n' k', v' = .slice b n' k' → n' ≤ k' → ∃ r' w' R', (Builtin.append_ ts ty #[v', x']).run c.P w = .ok r' w' ∧ V R' (.slice base n k) r' ∧ WR c R' s w' ∧ Ext R R' s s := by
      intro b n' k' e1 hle
      subst e1
      exact ⟨_, w, R, run_append_zero T.h0 T.h1 T.hu T.hs T.h2 hl h00 hle, hv, hW, .refl R s⟩
    cases base with
    | none => obtain ⟨e1, e2, e3⟩ := hv.inv_slice_nil; exact go _ _ _ e1 (by omega)
    | some a =>
      cases hv with
      | ground hg => simp [g0] at hg
      | slice _ _ hn => exact go _ _ _ rfl hn
      | opn _ _ hn => exact go _ _ _ rfl (by omega)
      | emp => exact go _ _ _ rfl (Nat.zero_le _)
  | false =>
    rw [hb, cond_false] at h
    cases hb2 : (Nat.ble (n + m) 1048576 && all oneC news && Nat.beq (len news) (m * size)) with
    | false => rw [hb2] at h; cases h
    | true =>
      rw [hb2, cond_true] at h
      simp only [Bool.and_eq_true, all_eq, List.all_eq_true] at hb2
      obtain ⟨⟨hsm, hone⟩, hnl⟩ := hb2
      have hsm := le_of_ble hsm
      have hnl := Nat.eq_of_beq_eq_true hnl
      rw [len_eq] at hnl
      split at h
      · cases hb3 : (Nat.beq n 0 && Nat.beq k 0) with
        | false => rw [hb3] at h; cases h
        | true =>
          rw [hb3, cond_true] at h
          simp only [Bool.and_eq_true] at hb3
          have e1 := Nat.eq_of_beq_eq_true hb3.1
          have e2 := Nat.eq_of_beq_eq_true hb3.2
          subst e1; subst e2
          obtain ⟨rfl, _, _⟩ := hv.inv_slice_nil
          unfold appNew at h
          cases h
          have hm0 := nbeq hb
          have := out_new (ty := ty) (b := none) (n := 0) (cp := 0) (old := []) (os := []) hW T hl hf (fun _ _ => rfl) hnv .nil hnl (by simp) (by omega) (by omega) 0 (Nat.zero_le _)
          simpa [app] using this
      · rename_i i off
        unfold appSome at h
        split at h
        · rename_i cs e' fz o hg
          cases hb3 : (own i && !(Nat.beq k EMP) && Nat.ble fz 1) with
          | false => rw [hb3] at h; cases h
          | true =>
            rw [hb3, cond_true] at h
            simp only [Bool.and_eq_true, Bool.not_eq_true'] at hb3
            obtain ⟨⟨hN, hE⟩, hfz⟩ := hb3
            have hN : NG ≤ i := le_of_ble hN
            have hfz := le_of_ble hfz
            rcases hv.inv_slice with ⟨hk, hnk, im, hi, rfl⟩ | ⟨hop, im, hi, hcap, rfl⟩ | ⟨rfl, _, _⟩
            · rw [isOpen_lt hk, cond_false] at h
              exact app_shut hW T hi hg hN hfz hone hnv hnl hsm hl hf hk h
            · rw [hop, cond_true] at h
              cases hb4 : (o && Nat.beq e' e) with
              | false => rw [hb4] at h; cases h
              | true =>
                rw [hb4, cond_true] at h
                simp only [Bool.and_eq_true] at hb4
                obtain ⟨rfl, he⟩ := hb4
                have he := Nat.eq_of_beq_eq_true he
                subst he
                exact app_open hW T hi hg hN hfz hone hnv hnl hsm hl hf hop hcap h
            · simp at hE
        · cases h
      · cases h

theorem append_ok (hW : WR c R s w) {ts : Array TypeId} {ty t t2 : TypeId} {v v' x x' r : Value} {s' : St} (h0 : ts[0]? = some t) (h1 : ts[1]? = some t2) (hv : V R v v') (hx : V R x x')
    (h : appendA c.P (elemSize c.P t) t2 v x s = .v r s') :
    ∃ r' w' R', (Builtin.append_ ts ty #[v', x']).run c.P w = .ok r' w' ∧ V R' r r' ∧ WR c R' s' w' ∧ Ext R R' s s' := by
  unfold appendA at h
  split at h
  · rename_i e size0 base n cp hes h2
    obtain ⟨hu, hs⟩ := elemSize_some hes
    have hpos : 0 < size0 + 1 := Nat.succ_pos _
    cases hao : appOk c.P e (size0 + 1) with
    | false => rw [hao] at h; cases h
    | true =>
      rw [hao, cond_true] at h
      unfold appOk at hao
      simp only [Bool.and_eq_true] at hao
      obtain ⟨hby, hzz⟩ := hao
      cases hz : zeroA c.P e with
      | none => rw [hz] at hzz; cases hzz
      | some z =>
        rw [hz] at hzz
        have hzl : z.length = size0 + 1 := by rw [← len_eq]; exact Nat.eq_of_beq_eq_true hzz
        have T : ApT c.P ts t t2 e (size0 + 1) z := ⟨h0, h1, hu, hs, h2, hz, hzl, hby, hpos⟩
        unfold appSrc at h
        split at h
        · rename_i m hm
          split at h
          · rename_i news hnews
            have hl := lenOf_ok (P := c.P) (w := w) hx hm
            obtain ⟨vs, hnv, hf⟩ := source_ok hW hx hm (Nat.le_refl _) hnews
            exact app_go hW T hv hx hl hm hnv hf h
          · cases h
        · cases h
  · cases h
end
end Go.Ev
/- The evaluator: copy, conversions, strings of bytes. -/
namespace Go.Ev
open Go

section
variable {c : Cx} {P : Program} {R : Rel} {s : St} {w : World}

theorem copy_ok (hW : WR c R s w) {ts : Array TypeId} {ty t : TypeId} {d d' x x' r : Value} {s' : St} (h0 : ts[0]? = some t) (hd : V R d d') (hx : V R x x')
    (h : copyA (elemSize c.P t) d x s = .v r s') :
    ∃ r' w', (Builtin.copy_ ts ty #[d', x']).run c.P w = .ok r' w' ∧ V R r r' ∧ WR c R s' w' ∧ Ext R R s s' := by
  unfold copyA at h
  split at h
  · rename_i e size base dl k sl hes hsl
    obtain ⟨hu, hs⟩ := elemSize_some hes
    unfold copySrc at h
    split at h
    · rename_i cells hc
      rw [minN_eq] at h hc
      have hl := lenOf_ok (P := c.P) (w := w) hx hsl
      obtain ⟨vs, hnv, hf⟩ := source_ok hW hx hsl (Nat.min_le_left _ _) hc
      have hf := hf w rfl
      have key : ∀ b k', d' = .slice b dl k' → ∀ w', ((match b with | some a => storeCells a vs | none => pure ()) : Sem Unit).run c.P w = .ok () w' →
          (Builtin.copy_ ts ty #[d', x']).run c.P w = .ok (.int .i64 (Int.ofNat (min sl dl))) w' := by
        intro b k' e1 w' hst
        subst e1
        cases b with
        | none => 
          simp at hst
          subst hst
          simp [Builtin.copy_, h0, run_underlyingA hu, hl, run_sizeA hs, goInt, show Nat.min sl dl = min sl dl from rfl, hf]
        | some a => simp [Builtin.copy_, h0, run_underlyingA hu, hl, run_sizeA hs, goInt, show Nat.min sl dl = min sl dl from rfl, hf, hst]
      unfold copyGo at h
      split at h
      · cases h
        cases hnv
        have : ∃ b k', d' = .slice b dl k' := by
          cases base with
          | none => obtain ⟨rfl, _, _⟩ := hd.inv_slice_nil; exact ⟨_, _, rfl⟩
          | some a =>
            cases hd with
            | ground hg => simp [g0] at hg
            | slice _ _ _ => exact ⟨_, _, rfl⟩
            | opn _ _ _ => exact ⟨_, _, rfl⟩
            | emp => exact ⟨_, _, rfl⟩
        obtain ⟨b, k', e1⟩ := this
        exact ⟨_, w, key b k' e1 w (by cases b <;> rfl), .ground rfl, hW, .refl R s⟩
      · rename_i y r' i off
        split at h
        · rename_i s2 hwr
          cases h
          rcases hd.inv_slice with ⟨_, _, im, hi, e1⟩ | ⟨_, im, hi, _, e1⟩ | ⟨_, e0, _⟩
          · obtain ⟨w', h1, h2, h3⟩ := write_cells hW hi hnv hwr
            exact ⟨_, w', key _ _ e1 w' h1, .ground rfl, h2, h3⟩
          · obtain ⟨w', h1, h2, h3⟩ := write_cells hW hi hnv hwr
            exact ⟨_, w', key _ _ e1 w' h1, .ground rfl, h2, h3⟩
          · subst e0
            unfold sourceA at hc
            simp only [Nat.min_zero] at hc
            split at hc
            · cases hc
            · cases hc
            · split at hc
              · rename_i l hl'; cases hl'; cases hc
              · cases hc
            · cases hc
        · cases h
      · cases h
    · cases h
  · cases h

/-! ### conversions -/
theorem isByte_some {e : TypeId} (h : isByte P e = true) : P.underlying e = some (.int .u8) ∧ sizeA P e = some 1 := by
  unfold isByte at h
  split at h
  · rename_i hu
    split at h
    · rename_i n hs
      have := Nat.eq_of_beq_eq_true h
      subst this
      exact ⟨hu, hs⟩
    · cases h
  · cases h

theorem freeze_heap {b o n : Nat} {ys : Array Value} {e : TypeId} {fr : Nat × Nat} (hn : n ≠ 0) (h : w.heap[b]? = some (.cells ys e fr)) :
    (w.freeze ⟨b, o, none⟩ n).heap = (setH w b (.cells ys e (if fr.1 == fr.2 then (o, o + n) else (min fr.1 o, max fr.2 (o + n))))).heap := by
  unfold World.freeze
  rw [if_neg hn]
  apply Array.ext_getElem?
  intro k
  by_cases hk : b = k
  · subst hk
    rw [setH_same (Array.getElem?_eq_some_iff.1 h).1]
    simp [Array.getElem?_modify, h]
  · rw [setH_ne hk]
    simp [Array.getElem?_modify, hk]

theorem freeze_rst {w : World} {a : Addr} {n : Nat} : rst (w.freeze a n) = rst w := by
  unfold World.freeze
  split <;> rfl

theorem mark_ok (hW : WR c R s w) {i : Nat} {x : Value} {s' : St} {im : Img} {o : Nat} (hi : R i = some im) (h : convMark i x s = .v x s') :
    ∃ w', (markStringish ⟨im.b, o, none⟩).run c.P w = .ok () w' ∧ WR c R s' w' ∧ Ext R R s s' := by
  unfold convMark at h
  split at h
  · rename_i cs e fz op hg
    cases hb : (own i && Nat.beq fz 0) with
    | false => rw [hb] at h; cases h
    | true =>
      rw [hb, cond_true] at h
      cases h
      simp only [Bool.and_eq_true] at hb
      have hN : NG ≤ i := le_of_ble hb.1
      have hfz := Nat.eq_of_beq_eq_true hb.2
      subst hfz
      obtain ⟨ys, fr, y1, y2, y3, y4, y5, y6⟩ := hW.cells hi hg
      have y2 : fr.1 = fr.2 := y2
      have hput := hW.put (o' := .cells cs e 1 op) (ob' := .cells ⟨ys⟩ e (ys.length, ys.length + 1)) hi hg hN
        ⟨ys, _, rfl, .inr (Nat.le_refl _), y3, y4, y5, y6⟩
      refine ⟨w.freeze ⟨im.b, ys.length, none⟩ 1, ?_, hput.1.heap ?_ (freeze_rst.trans rfl), hput.2⟩
      · simp [markStringish, World.shape?, y1]
      · rw [freeze_heap (by decide) y1]; simp [y2]
  · cases h
theorem convMark_v {i : Nat} {x v : Value} {s s' : St} (h : convMark i x s = .v v s') : v = x := by
  unfold convMark at h
  split at h
  · rename_i cs e fz op hg
    cases hb : (own i && Nat.beq fz 0) with
    | false => rw [hb] at h; cases h
    | true => rw [hb, cond_true] at h; cases h; rfl
  · cases h

theorem drew_cap (n : Nat) (e : TypeId) : ∃ C, n ≤ C ∧ (choose (.appendCap n 0 e)).run P w = .ok C w.drew := by
  refine ⟨_, ?_, rfl⟩
  simp only [Question.cut]; omega
theorem stringToBytes_def (e : TypeId) (b : ByteArray) : Conv.stringToBytes e b = (do
      let cap ← choose (.appendCap b.size 0 e)
      let a ← newRow e ((b.data.map fun z => Value.int .u8 z.toNat) ++ Array.replicate (cap - b.size) (.int .u8 0))
      markStringish a
      pure (.slice (some a) b.size cap)) := rfl
theorem strBytes_ok (hW : WR c R s w) {e : TypeId} {b : ByteArray} {v : Value} {s' : St} (he : sizeA c.P e = some 1) (h : convStrBytes e b s = .v v s') :
    ∃ v' w' R', (Conv.stringToBytes e b).run c.P w = .ok v' w' ∧ V R' v v' ∧ WR c R' s' w' ∧ Ext R R' s s' := by
  unfold convStrBytes at h
  cases h
  obtain ⟨C, hC, hch⟩ := drew_cap (P := c.P) (w := w) b.size e
  have hlen : len b.data.toList = b.size := by rw [len_eq]; exact Array.length_toList
  let ys : List Value := (b.data.toList.map fun z => Value.int .u8 z.toNat) ++ List.replicate (C - b.size) (.int .u8 0)
  have hbl : b.data.toList.length = b.size := Array.length_toList
  have hyl : ys.length = C := by simp only [ys, List.length_append, List.length_map, List.length_replicate, hbl]; omega
  have hok : OK c.P R ⟨w.drew.heap.size, 0, C⟩ (.cells (map byteV b.data.toList) e 1 true) (.cells ⟨ys⟩ e (C, C + 1)) := by
    refine ⟨ys, _, rfl, .inr (by rw [hyl]; exact Nat.le_refl _), ?_, ?_, fun _ => ⟨1, he, by simp [hyl]⟩, (fun h => by cases h)⟩
    · rw [map_eq, List.length_map, hbl, hyl]; simp; exact hC
    · rw [map_eq]
      have : ((ys.drop 0).take (b.data.toList.map byteV).length) = b.data.toList.map byteV := by
        rw [List.drop_zero, List.take_left' (by simp)]
        rfl
      simp only [this]
      exact VL.ground _ fun x hx => by obtain ⟨z, _, rfl⟩ := List.mem_map.1 hx; rfl
  have hn := (hW.heap (w' := w.drew) rfl rfl).new hok
  refine ⟨.slice (some ⟨w.heap.size, 0, none⟩) b.size C, (pushH w.drew (.cells ⟨ys⟩ e)).freeze ⟨w.heap.size, C, none⟩ 1, _, ?_, ?_, hn.1.heap ?_ freeze_rst, hn.2⟩
  · have hal : (w.drew.alloc (.cells ((b.data.map fun z => Value.int .u8 z.toNat) ++ Array.replicate (C - b.size) (.int .u8 0)) e)) = pushH w.drew (.cells ⟨ys⟩ e) := by
      show pushH w.drew _ = _
      congr 2
      apply Array.ext'
      simp [ys]
    have hsz : ((b.data.map fun z => Value.int .u8 z.toNat) ++ Array.replicate (C - b.size) (Value.int .u8 0)).size = C := by
      have : b.data.size = b.size := rfl
      simp [this]; omega
    have hsh : (pushH w.drew (.cells ⟨ys⟩ e)).shape? w.heap.size = some (e, C) := by
      have : (pushH w.drew (.cells ⟨ys⟩ e)).heap[w.heap.size]? = some (.cells ⟨ys⟩ e) := pushH_same
      simp [World.shape?, this, hyl]
    have hmk : (markStringish ⟨w.heap.size, 0, none⟩).run c.P (pushH w.drew (.cells ⟨ys⟩ e)) = .ok () ((pushH w.drew (.cells ⟨ys⟩ e)).freeze ⟨w.heap.size, C, none⟩ 1) := by
      simp [markStringish, hsh]
    rw [stringToBytes_def]
    have hnr : (newRow e ((b.data.map fun z => Value.int .u8 z.toNat) ++ Array.replicate (C - b.size) (.int .u8 0))).run c.P w.drew = .ok ⟨w.heap.size, 0, none⟩ (pushH w.drew (.cells ⟨ys⟩ e)) := by
      rw [← hal]; rfl
    simp only [Sem.run_bind, hch, hnr, hmk, Result.andThen_ok, Sem.run_pure]
  · rw [hlen]
    have := V.opn (R := R.add s.n ⟨w.drew.heap.size, 0, C⟩) (o := 0) (n := b.size) (c := OPEN) Rel.add_same (by decide) (by simpa using hC)
    simpa using this
  · have h1 : (pushH w.drew (.cells ⟨ys⟩ e)).heap[w.heap.size]? = some (.cells ⟨ys⟩ e) := pushH_same
    rw [freeze_heap (by decide) h1]
    simp only [setH, pushH]
    apply Array.ext_getElem?
    intro k
    have hsz : w.drew.heap.size = w.heap.size := rfl
    rw [Array.getElem?_setIfInBounds, Array.getElem?_push, Array.getElem?_push]
    simp only [Array.size_push, hsz]
    by_cases hk : w.heap.size = k
    · subst hk; simp
    · have : ¬ k = w.heap.size := fun e => hk e.symm
      simp [hk, this]
end
end Go.Ev
/- The evaluator: more conversions, keys, places of a byte, ranges. -/
namespace Go.Ev
open Go

section
variable {c : Cx} {P : Program} {R : Rel} {s : St} {w : World}

theorem byteOf_some {v : Value} {b : UInt8} (h : byteOf v = some b) : ∃ n : Nat, v = .int .u8 (Int.ofNat n) ∧ b = UInt8.ofNat n ∧ n ≤ 255 := by
  unfold byteOf at h
  split at h
  · obtain ⟨hb, h⟩ := cond_some h; cases h; exact ⟨_, rfl, rfl, le_of_ble hb⟩
  · cases h
theorem bytes_of : ∀ (l : List Value) (b : List UInt8), mapM' byteOf l = some b → ∃ ns : List Nat, l = ns.map (fun n => Value.int .u8 (Int.ofNat n)) ∧ b = ns.map UInt8.ofNat ∧ ∀ n ∈ ns, n ≤ 255 := by
  intro l
  induction l with
  | nil => intro b h; cases h; exact ⟨[], rfl, rfl, by simp⟩
  | cons x l ih =>
    intro b h
    change (Option.casesOn (byteOf x) none fun y => Option.casesOn (mapM' byteOf l) none fun q => some (y :: q) : Option (List UInt8)) = some b at h
    cases hp : byteOf x with
    | none => rw [hp] at h; cases h
    | some y =>
      rw [hp] at h
      cases hm : mapM' byteOf l with
      | none => rw [hm] at h; cases h
      | some q =>
        rw [hm] at h
        cases h
        obtain ⟨n, rfl, rfl, hn⟩ := byteOf_some hp
        obtain ⟨ns, rfl, rfl, hns⟩ := ih q hm
        exact ⟨n :: ns, rfl, rfl, fun k hk => (List.mem_cons.1 hk).elim (fun e => e ▸ hn) (hns k)⟩
theorem strOf_some {l : Option (List Value)} {v : Value} (h : strOf l = some v) : ∃ (r : List Value) (ns : List Nat), l = some r ∧ r = ns.map (fun n => Value.int .u8 (Int.ofNat n)) ∧ v = .string ⟨⟨ns.map UInt8.ofNat⟩⟩ ∧ ∀ n ∈ ns, n ≤ 255 := by
  unfold strOf at h
  split at h
  · rename_i r
    split at h
    · rename_i b hb
      cases h
      obtain ⟨ns, h1, rfl, hns⟩ := bytes_of r b hb
      exact ⟨r, ns, rfl, h1, rfl, hns⟩
    · cases h
  · cases h
theorem ints_ground (ns : List Nat) : ∀ x ∈ ns.map (fun n => Value.int .u8 (Int.ofNat n)), g0 x = true := fun x hx => by
  obtain ⟨z, _, rfl⟩ := List.mem_map.1 hx; rfl

theorem push_all (ns : List Nat) : ∀ (acc : ByteArray), (ns.map Int.ofNat).foldl (fun r n => r.push (UInt8.ofNat n.toNat)) acc = ⟨acc.data ++ (ns.map UInt8.ofNat).toArray⟩ := by
  induction ns with
  | nil => intro acc; simp
  | cons n ns ih =>
    intro acc
    simp only [List.map_cons, List.foldl_cons]
    rw [ih]
    apply ByteArray.ext
    apply Array.ext'
    simp [ByteArray.push]

theorem bytesStr_ok (hW : WR c R s w) {x x' v : Value} (hx : V R x x') (h : convBytesStr x s = some v) :
    ∃ v', (Conv.bytesToString x').run c.P w = .ok v' w ∧ V R v v' := by
  unfold convBytesStr at h
  split at h
  · cases h
    obtain ⟨rfl, _, _⟩ := hx.inv_slice_nil
    exact ⟨_, rfl, .ground rfl⟩
  · rename_i i off n cp
    cases hb : Nat.beq n 0 with
    | true =>
      rw [hb, cond_true] at h
      cases h
      have hn := Nat.eq_of_beq_eq_true hb
      subst hn
      have : ∃ a c', x' = .slice (some a) 0 c' := by
        cases hx with
        | ground hg => simp [g0] at hg
        | slice _ _ _ => exact ⟨_, _, rfl⟩
        | opn _ _ _ => exact ⟨_, _, rfl⟩
        | emp => exact ⟨_, _, rfl⟩
      obtain ⟨a, c', rfl⟩ := this
      refine ⟨.string ByteArray.empty, ?_, .ground rfl⟩
      have := run_bytesToString (P := c.P) w a 0 c' [] (by simp; rfl)
      exact this
    | false =>
      rw [hb, cond_false] at h
      have hn0 := nbeq hb
      obtain ⟨r, ns, hr, hrn, rfl, _⟩ := strOf_some h
      have go : ∀ (im : Img) (cc : Nat), R i = some im → ∃ v', (Conv.bytesToString (.slice (some ⟨im.b, im.base + off, none⟩) n cc)).run c.P w = .ok v' w ∧ V R (.string ⟨⟨ns.map UInt8.ofNat⟩⟩) v' := by
        intro im cc hi
        obtain ⟨vs, h1, h2, h3, h4⟩ := read_cells hW hi hr
        have hvs : vs = r := h1.eq_of_g0 (by rw [hrn]; exact ints_ground ns)
        subst hvs
        refine ⟨_, run_bytesToString w _ n cc (ns.map Int.ofNat) ?_, ?_⟩
        · rw [run_loadCells_blk h2 h4, hrn]; simp
        · rw [push_all]
          have : (⟨ByteArray.empty.data ++ (ns.map UInt8.ofNat).toArray⟩ : ByteArray) = ⟨⟨ns.map UInt8.ofNat⟩⟩ := by
            apply ByteArray.ext; apply Array.ext'; simp
          rw [this]; exact .ground rfl
      rcases hx.inv_slice with ⟨_, _, im, hi, rfl⟩ | ⟨_, im, hi, _, rfl⟩ | ⟨_, e, _⟩
      · exact go im _ hi
      · exact go im _ hi
      · omega
  · cases h

theorem shape_cells {b : Nat} {ys : List Value} {e : TypeId} {fr : Nat × Nat} (h : w.heap[b]? = some (.cells ⟨ys⟩ e fr)) : w.shape? b = some (e, ys.length) := by
  simp [World.shape?, h]

theorem toUns_ok (hW : WR c R s w) {src dst u : TypeId} {x x' v : Value} {s' : St} (hs : c.P.underlying src = some (.pointer u)) (hd : c.P.underlying dst = some .unsafePointer) (hx : V R x x') (h : toUns (sizeA c.P u) x s = .v v s') :
    ∃ v', (convert src dst x').run c.P w = .ok v' w ∧ V R v v' ∧ s' = s ∧ v = x := by
  unfold toUns at h
  split at h
  · rename_i i off
    cases hb : hasCell (sizeA c.P u) i off s with
    | false => rw [hb] at h; cases h
    | true =>
      rw [hb, cond_true] at h
      cases h
      unfold hasCell at hb
      split at hb
      · rename_i k cs e fz o hsz hg
        obtain ⟨j, hj, hjs⟩ := sizeA_some hsz
        obtain ⟨im, hi, rfl⟩ := hx.inv_ptr
        obtain ⟨ys, fr, y1, y2, y3, y4, y5, y6⟩ := hW.cells hi hg
        have hle := le_of_ble hb
        rw [len_eq] at hle
        refine ⟨_, Lib.run_to_unsafe w ⟨im.b, im.base + off, none⟩ hs hd hj (by rw [hjs]; omega) (shape_cells y1) ?_, hx, rfl, rfl⟩
        show im.base + off < ys.length
        omega
      · cases hb
  · cases h

theorem fromUns_ok (hW : WR c R s w) {src dst u : TypeId} {x x' v : Value} {s' : St} (hs : c.P.underlying src = some .unsafePointer) (hd : c.P.underlying dst = some (.pointer u)) (hx : V R x x') (h : fromUns c.P u x s = .v v s') :
    ∃ v', (convert src dst x').run c.P w = .ok v' w ∧ V R v v' ∧ s' = s ∧ v = x := by
  unfold fromUns at h
  split at h
  · rename_i i off
    cases hb : (liesIn c.P u i off s && (sizeA c.P u).isSome) with
    | false => rw [hb] at h; cases h
    | true =>
      rw [hb, cond_true] at h
      cases h
      simp only [Bool.and_eq_true] at hb
      obtain ⟨hb, hsz⟩ := hb
      obtain ⟨k, hk⟩ := Option.isSome_iff_exists.1 hsz
      obtain ⟨j, hj, _⟩ := sizeA_some hk
      unfold liesIn at hb
      split at hb
      · rename_i cs e fz hg
        obtain ⟨im, hi, rfl⟩ := hx.inv_ptr
        obtain ⟨ys, fr, y1, y2, y3, y4, y5, y6⟩ := hW.cells hi hg
        obtain ⟨y7, y8⟩ := y6 rfl
        rw [len_eq, ← y8] at hb
        refine ⟨_, Lib.run_from_unsafe w ⟨im.b, im.base + off, none⟩ hs hd hj (shape_cells y1) ?_, hx, rfl, rfl⟩
        rw [y7, Nat.zero_add]; exact hb
      · cases hb
  · cases h

theorem convInt_ok {src dst : TypeId} {d : TypeDesc} {x x' v : Value} (hs : ∃ e, c.P.underlying src = some e) (hd : c.P.underlying dst = some d) (hx : V R x x') (h : convInt (some d) x = some v) :
    (convert src dst x').run c.P w = .ok v w ∧ g0 v = true := by
  obtain ⟨e, he⟩ := hs
  unfold convInt at h
  split at h
  · rename_i k kk n heq
    cases heq
    cases h
    have := hx.inv_int; subst this
    refine ⟨?_, rfl⟩
    simp [convert, run_underlyingA he, run_underlyingA hd, Conv.intToInt]
  · rename_i b heq
    cases heq
    cases h
    have := hx.inv_string; subst this
    refine ⟨?_, rfl⟩
    simp [convert, run_underlyingA he, run_underlyingA hd]
  · cases h

def convSpec (P : Program) (src dst : TypeId) : CK → Prop
  | .strBytes e => P.underlying src = some .string ∧ P.underlying dst = some (.slice e) ∧ isByte P e = true
  | .mark => ∃ e e', P.underlying src = some (.slice e') ∧ P.underlying dst = some (.slice e) ∧ src = dst ∧ isByte P e = true
  | .bytesStr => ∃ e, P.underlying src = some (.slice e) ∧ P.underlying dst = some .string ∧ isByte P e = true
  | .toU u => P.underlying src = some (.pointer u) ∧ P.underlying dst = some .unsafePointer
  | .fromU u => P.underlying src = some .unsafePointer ∧ P.underlying dst = some (.pointer u)
  | .plain => (∃ e, P.underlying src = some e) ∧ (∃ d, P.underlying dst = some d)
  | .no => True
theorem convKind_cases {src dst : TypeId} : convSpec P src dst (convKind P src dst) := by
  unfold convKind
  split
  · rename_i e h1 h2
    cases hb : isByte P e
    · trivial
    · exact ⟨h1, h2, hb⟩
  · rename_i e e' h1 h2
    cases hb : (Nat.beq src dst && isByte P e)
    · trivial
    · simp only [Bool.and_eq_true] at hb
      have := Nat.eq_of_beq_eq_true hb.1
      subst this
      rw [h1] at h2; cases h2
      exact ⟨_, _, h1, h1, rfl, hb.2⟩
  · rename_i e h1 h2
    cases hb : isByte P e
    · trivial
    · exact ⟨_, h1, h2, hb⟩
  · rename_i u h1 h2; exact ⟨h1, h2⟩
  · rename_i u h1 h2; exact ⟨h1, h2⟩
  · rename_i h1 h2; exact ⟨⟨_, h1⟩, ⟨_, h2⟩⟩
  · rename_i h1 h2; exact ⟨⟨_, h1⟩, ⟨_, h2⟩⟩
  · trivial

theorem convert_ok (hW : WR c R s w) {src dst : TypeId} {x x' v : Value} {s' : St} (hx : V R x x') (h : convertA c.P src dst x s = .v v s') :
    ∃ v' w' R', (convert src dst x').run c.P w = .ok v' w' ∧ V R' v v' ∧ WR c R' s' w' ∧ Ext R R' s s' := by
  have hk := convKind_cases (P := c.P) (src := src) (dst := dst)
  unfold convertA at h
  cases hc : convKind c.P src dst with
  | strBytes e =>
    rw [hc] at h hk
    obtain ⟨h1, h2, h3⟩ := hk
    obtain ⟨h4, h5⟩ := isByte_some h3
    simp only at h
    split at h
    · rename_i b
      have := hx.inv_string; subst this
      obtain ⟨v', w', R', a1, a2, a3, a4⟩ := strBytes_ok hW h5 h
      exact ⟨v', w', R', by simpa [convert, run_underlyingA h1, run_underlyingA h2, run_underlyingA h4] using a1, a2, a3, a4⟩
    · cases h
  | mark =>
    rw [hc] at h hk
    obtain ⟨e, e', h1, h2, rfl, h3⟩ := hk
    rw [h1] at h2; cases h2
    obtain ⟨h4, h5⟩ := isByte_some h3
    simp only at h
    split at h
    · rename_i i off n cp
      cases hb : Nat.beq cp EMP with
      | true => rw [hb] at h; cases h
      | false =>
        rw [hb, cond_false] at h
        have hE := nbeq hb
        have hvx := convMark_v h
        subst hvx
        have go : ∀ (im : Img) (cc : Nat), R i = some im → x' = .slice (some ⟨im.b, im.base + off, none⟩) n cc → ∃ v' w' R', (convert src src x').run c.P w = .ok v' w' ∧ V R' (.slice (some ⟨i, off, none⟩) n cp) v' ∧ WR c R' s' w' ∧ Ext R R' s s' := by
          intro im cc hi e1
          subst e1
          obtain ⟨w', a1, a2, a3⟩ := mark_ok (o := im.base + off) hW hi h
          exact ⟨_, w', R, by simp [convert, run_underlyingA h1, run_underlyingA h4, a1], hx, a2, a3⟩
        rcases hx.inv_slice with ⟨_, _, im, hi, e1⟩ | ⟨_, im, hi, _, e1⟩ | ⟨e0, _⟩
        · exact go im _ hi e1
        · exact go im _ hi e1
        · exact absurd e0 hE
    · cases h
  | bytesStr =>
    rw [hc] at h hk
    obtain ⟨e, h1, h2, h3⟩ := hk
    obtain ⟨h4, h5⟩ := isByte_some h3
    simp only at h
    unfold orV at h
    split at h
    · rename_i u hu
      cases h
      obtain ⟨v', a1, a2⟩ := bytesStr_ok hW hx hu
      have hsl : ∃ a n k, x' = .slice a n k := by
        unfold convBytesStr at hu
        split at hu
        · obtain ⟨rfl, _, _⟩ := hx.inv_slice_nil; exact ⟨_, _, _, rfl⟩
        · obtain ⟨_, _, _, rfl⟩ := hx.inv_slice_some; exact ⟨_, _, _, rfl⟩
        · cases hu
      obtain ⟨a, n, k, rfl⟩ := hsl
      exact ⟨v', w, R, by rw [← a1]; cases a <;> simp [convert, run_underlyingA h1, run_underlyingA h2, run_underlyingA h4], a2, hW, .refl R s⟩
    · cases h
  | toU u =>
    rw [hc] at h hk
    obtain ⟨h1, h2⟩ := hk
    obtain ⟨v', a1, a2, rfl, _⟩ := toUns_ok hW h1 h2 hx h
    exact ⟨v', w, R, a1, a2, hW, .refl R _⟩
  | fromU u =>
    rw [hc] at h hk
    obtain ⟨h1, h2⟩ := hk
    obtain ⟨v', a1, a2, rfl, _⟩ := fromUns_ok hW h1 h2 hx h
    exact ⟨v', w, R, a1, a2, hW, .refl R _⟩
  | plain =>
    rw [hc] at h hk
    obtain ⟨h1, d, h2⟩ := hk
    simp only at h
    unfold orV at h
    split at h
    · rename_i u hu
      cases h
      rw [h2] at hu
      obtain ⟨a1, a2⟩ := convInt_ok (w := w) h1 h2 hx hu
      exact ⟨_, w, R, a1, .ground a2, hW, .refl R _⟩
    · cases h
  | no => rw [hc] at h; cases h
end
end Go.Ev
/- The evaluator: the rest of the operations. -/
namespace Go.Ev
open Go

section
variable {c : Cx} {P : Program} {R : Rel} {s : St} {w : World}

theorem data_ok {ts : Array TypeId} {ty : TypeId} {x x' v : Value} (hx : V R x x') (h : dataA x = some v) : ∃ v', (Builtin.unsafeSliceData_ ts ty #[x']).run P w = .ok v' w ∧ V R v v' := by
  unfold dataA at h
  split at h
  · rename_i a n cp
    cases hb : Nat.beq n 0 with
    | true => rw [hb] at h; cases h
    | false =>
      rw [hb, cond_false] at h
      cases h
      have h0 := nbeq hb
      obtain ⟨i, o, sp⟩ := a
      cases sp with
      | some _ => cases hx with | ground hg => simp [g0] at hg
      | none =>
        rcases hx.inv_slice with ⟨_, hle, m, hm, rfl⟩ | ⟨hop, m, hm, hcap, rfl⟩ | ⟨_, e, _⟩
        · exact ⟨_, Lib.run_unsafeSliceData_row w ts ty _ n cp (by omega), .ptr hm⟩
        · exact ⟨_, Lib.run_unsafeSliceData_row w ts ty _ n _ (by omega), .ptr hm⟩
        · exact absurd e h0
  · cases h

theorem liesAt_bytesAt {e : TypeId} (hc : P.cellsOf e = 1) (count o n : Nat) (hn : o + n ≤ count) : liesAt P P.depth e count o e n = true := by
  have hd : P.depth = (2 * (P.types.size + Made.depth) + 1) + 1 := rfl
  rw [hd]
  simp only [liesAt, Bool.or_eq_true]
  left
  rw [hd]
  simp [rowAt, hc, hn, sameLayout, Nat.mod_one]

theorem unsafeStr_def (ts : List TypeId) (ty t : TypeId) (a : Addr) (x : Value) : Builtin.unsafeString_ ⟨t :: ts⟩ ty #[.pointer (some a), x] = (do
      let n ← asInt x
      if n < 0 then runtimePanic (.error "unsafe.String: len out of range")
      if n > IntKind.i64.max then unsupported (.unsafePointer "String: a length above the largest int")
      if n = 0 then pure (.string .empty)
      else if ← variablesAt a (← elemOf t) n.toNat then do
        let s ← loadBytes a .empty n.toNat
        freeze a n.toNat
        pure (.string s)
      else unsupported (.unsafePointer "String: not so many bytes at ptr")) := rfl

theorem unsafeStr_ok (hW : WR c R s w) {ts : List TypeId} {ty t : TypeId} {x x' n n' v : Value} {s' : St} (hx : V R x x') (hn : V R n n') (h : unsafeStrA c.P t x n s = .v v s') :
    ∃ v' w', (Builtin.unsafeString_ ⟨t :: ts⟩ ty #[x', n']).run c.P w = .ok v' w' ∧ V R v v' ∧ WR c R s' w' ∧ Ext R R s s' := by
  unfold unsafeStrA at h
  split at h
  · rename_i i off k e hk he
    obtain ⟨kk, rfl⟩ := hn.of_natA hk
    cases hb : (isByte c.P e && Nat.ble (k + 1) 1048576) with
    | false => rw [hb] at h; cases h
    | true =>
      rw [hb, cond_true] at h
      simp only [Bool.and_eq_true] at hb
      obtain ⟨hby, hsm⟩ := hb
      have hsm := le_of_ble hsm
      obtain ⟨hu8, hs1⟩ := isByte_some hby
      have hel : (elemOf t).run c.P w = .ok e w := by
        unfold ptrElem at he
        split at he
        · rename_i e' hu; cases he; simp [elemOf, run_underlyingA hu]
        · cases he
      have hc1 : c.P.cellsOf e = 1 := by
        obtain ⟨j, hj, hjs⟩ := sizeA_some hs1
        simp [Program.cellsOf, hj, hjs]
      unfold strAt at h
      split at h
      · rename_i u cs e' fz o hu hg
        cases hb2 : (own i && Nat.beq e e') with
        | false => rw [hb2] at h; cases h
        | true =>
          rw [hb2, cond_true] at h
          cases h
          simp only [Bool.and_eq_true] at hb2
          have hN : NG ≤ i := le_of_ble hb2.1
          have hee := Nat.eq_of_beq_eq_true hb2.2
          subst hee
          obtain ⟨r, ns, hr, hrn, rfl, h255⟩ := strOf_some hu
          obtain ⟨im, hi, rfl⟩ := hx.inv_ptr
          obtain ⟨ys, fr, y1, y2, y3, y4, y5, y6⟩ := hW.cells hi hg
          obtain ⟨vs, h1, h2, h3, h4⟩ := read_cells hW hi hr
          have hvs : vs = r := h1.eq_of_g0 (by rw [hrn]; exact ints_ground ns)
          subst hvs
          have hlen : (ns.map UInt8.ofNat).length = k + 1 := by rw [← h2, hrn]; simp
          have hnl : ns.length = k + 1 := by simpa using hlen
          have hle : im.base + off + (k + 1) ≤ ys.length := by
            have hj := h4 k _ (List.getElem?_eq_getElem (by omega))
            rw [cell_cells y1] at hj
            have := (List.getElem?_eq_some_iff.1 hj).1
            omega
          -- the cells as bytes
          have hcell : ∀ (j : Nat) (x : UInt8), (ns.map UInt8.ofNat)[j]? = some x → w.cell? ((⟨im.b, im.base + off, none⟩ : Addr).add j) = some (.int .u8 x.toNat) := by
            intro j x hj
            rw [addr_add]
            rw [List.getElem?_map] at hj
            obtain ⟨n, hn, rfl⟩ := Option.map_eq_some_iff.1 hj
            have := h4 j (.int .u8 (Int.ofNat n)) (by rw [hrn, List.getElem?_map, hn]; rfl)
            rw [this]
            have hm := h255 n (List.mem_of_getElem? hn)
            have e1 : (UInt8.ofNat n).toNat = n := by simp; omega
            rw [e1]; rfl
          have hlb := Lib.run_loadBytes (P := c.P) w (ns.map UInt8.ofNat) ⟨im.b, im.base + off, none⟩ .empty hcell
          rw [hlen] at hlb
          have hva : (variablesAt ⟨im.b, im.base + off, none⟩ e (k + 1)).run c.P w = .ok true w := by
            simp [variablesAt, shape_cells y1, liesAt_bytesAt hc1 (ys.length / c.P.cellsOf e) (im.base + off) (k + 1) (by rw [hc1]; simpa using hle)]
          have hput := hW.put (o' := .cells cs e 2 o) (ob' := .cells ⟨ys⟩ e (if fr.1 == fr.2 then (im.base + off, im.base + off + (k + 1)) else (min fr.1 (im.base + off), max fr.2 (im.base + off + (k + 1))))) hi hg hN
            ⟨ys, _, rfl, trivial, y3, y4, y5, y6⟩
          refine ⟨.string ⟨⟨ns.map UInt8.ofNat⟩⟩, w.freeze ⟨im.b, im.base + off, none⟩ (k + 1), ?_, .ground rfl, hput.1.heap (freeze_heap (by omega) y1) (freeze_rst.trans rfl), hput.2⟩
          rw [unsafeStr_def ts ty t _ _]
          have n1 : ¬ (((k + 1 : Nat) : Int) < 0) := by omega
          have n2 : ¬ (((k + 1 : Nat) : Int) > IntKind.i64.max) := by
            have : IntKind.i64.max = 9223372036854775807 := rfl
            omega
          have n3 : ¬ (((k + 1 : Nat) : Int) = 0) := by omega
          have n4 : (((k + 1 : Nat) : Int)).toNat = k + 1 := by omega
          simp only [asInt, asIntOf, Sem.run_bind, Sem.run_pure, Result.andThen_ok, Int.ofNat_eq_natCast, n1, n2, n3, if_false, hel, n4, hva, if_true, hlb, run_freeze]
          congr 2
          apply ByteArray.ext; apply Array.ext'; simp
      · cases h
  · cases h

theorem min2_ok {mx : Bool} {k j : IntKind} {a b : Int} {v : Value} (h : min2A mx (.int k a) (.int j b) = some v) :
    (if mx then Builtin.max2 (.int k a) (.int j b) else Builtin.min2 (.int k a) (.int j b)) = pure v ∧ ∃ n, v = .int k n := by
  simp only [min2A] at h
  obtain ⟨_, h⟩ := cond_some h
  cases h
  rw [leI_eq]
  refine ⟨?_, ⟨_, rfl⟩⟩
  cases mx
  · by_cases hab : a ≤ b
    · have : ¬ b < a := by omega
      simp [Builtin.min2, hab, this]
    · have : b < a := by omega
      simp [Builtin.min2, hab, this]
  · by_cases hab : a ≤ b
    · by_cases hlt : a < b
      · simp [Builtin.max2, hab, hlt]
      · have : a = b := by omega
        subst this
        simp [Builtin.max2]
    · have : ¬ a < b := by omega
      simp [Builtin.max2, hab, this]

theorem minL_ok {mx : Bool} : ∀ {l l' : List Value} (_ : VL R l l') (k : IntKind) (a : Int) (v : Value), minL mx l (.int k a) = some v →
    (l'.foldlM (if mx then Builtin.max2 else Builtin.min2) (.int k a) : Sem Value).run P w = .ok v w ∧ g0 v = true
  | _, _, .nil, k, a, v, h => by cases h; exact ⟨rfl, rfl⟩
  | _, _, .cons (x := x) (xs := xs) hx hs, k, a, v, h => by
    change (Option.casesOn (min2A mx (.int k a) x) none fun z => minL mx xs z : Option Value) = some v at h
    cases hz : min2A mx (.int k a) x with
    | none => rw [hz] at h; cases h
    | some z =>
      rw [hz] at h
      have hxi : ∃ j b, x = .int j b := by
        unfold min2A at hz
        split at hz
        · exact ⟨_, _, rfl⟩
        · cases hz
      obtain ⟨j, b, rfl⟩ := hxi
      have := hx.inv_int; subst this
      obtain ⟨h1, n, rfl⟩ := min2_ok hz
      obtain ⟨h2, h3⟩ := minL_ok hs k n v h
      refine ⟨?_, h3⟩
      rw [List.foldlM_cons, Sem.run_bind]
      have : (if mx = true then Builtin.max2 else Builtin.min2) (.int k a) (.int j b) = pure (.int k n) := by rw [← h1]; cases mx <;> rfl
      rw [this, Sem.run_pure, Result.andThen_ok]
      exact h2

theorem min_ok {ts : Array TypeId} {ty : TypeId} {mx : Bool} {l l' : List Value} {v : Value} (hl : VL R l l') (h : minA mx l = some v) :
    (if mx then Builtin.max_ ts ty ⟨l'⟩ else Builtin.min_ ts ty ⟨l'⟩).run P w = .ok v w ∧ g0 v = true := by
  unfold minA at h
  split at h
  · cases hl with
    | cons hx hs =>
      have := hx.inv_int; subst this
      have := minL_ok (P := P) (w := w) hs _ _ _ h
      cases mx
      · exact this
      · exact this
  · cases h

theorem nilCheck_ok {x x' v : Value} (hx : V R x x') (h : nilCheckA x = some v) : v = x ∧ ((∃ p, x' = .pointer (some p)) ∨ ∃ g xs ys, x' = .func (.func g) xs ys) := by
  unfold nilCheckA at h
  split at h
  · cases h
    obtain ⟨a, rfl⟩ := hx.inv_ptr_some
    exact ⟨rfl, .inl ⟨_, rfl⟩⟩
  · cases h
    obtain ⟨g, xs, ys, _, rfl, _, _⟩ := hx.inv_func
    exact ⟨rfl, .inr ⟨_, _, _, rfl⟩⟩
  · cases h
end
end Go.Ev
/- The evaluator: maps, ranges over strings, the two functions without a body. -/
namespace Go.Ev
open Go

section
variable {c : Cx} {P : Program} {R : Rel} {s : St} {w : World}

theorem bytes_beq0 (a b : ByteArray) : (a == b) = (a.data == b.data) := rfl
theorem bytes_beq (a b : ByteArray) : (a == b) = (a.data.toList == b.data.toList) := by
  rw [bytes_beq0]
  by_cases e : a.data = b.data
  · rw [e]; simp
  · have : a.data.toList ≠ b.data.toList := fun h => e (Array.ext' h)
    rw [beq_eq_false_iff_ne.2 e, beq_eq_false_iff_ne.2 this]
theorem bytes_eq {a b : ByteArray} (h : (a == b) = true) : a = b := by
  rw [bytes_beq0] at h; exact ByteArray.ext (eq_of_beq h)
theorem bytes_self (a : ByteArray) : (a == a) = true := by rw [bytes_beq0]; simp

def keyD (str : Bool) (d : TypeDesc) : Prop := if str then d = .string else ∃ k, d = .int k

theorem keyKind_some {t elem : TypeId} {str : Bool} (h : keyKind P t = some (str, elem)) : ∃ key d, P.underlying t = some (.map key elem) ∧ P.underlying key = some d ∧ keyD str d := by
  unfold keyKind at h
  split at h
  · rename_i key el hu
    split at h
    · rename_i hk; cases h; exact ⟨key, _, hu, hk, rfl⟩
    · rename_i k hk; cases h; exact ⟨key, _, hu, hk, ⟨_, rfl⟩⟩
    · cases h
  · cases h

theorem keyEq_some {str b : Bool} {d : TypeDesc} {x y : Value} (hd : keyD str d) (h : keyEq str x y = some b) : Instr.sameNow d x y = some b ∧ g0 x = true ∧ (b = true → Instr.sameBits 10000 y x = true) := by
  unfold keyEq at h
  cases str with
  | true =>
    simp only [cond_true] at h
    have hd : d = .string := hd
    subst hd
    unfold keyEqS at h
    split at h
    · rename_i p q
      cases h
      refine ⟨by simp [Instr.sameNow, bytes_beq, eqBytes_eq], rfl, fun e => ?_⟩
      rw [eqBytes_eq, ← bytes_beq] at e
      have := bytes_eq e
      subst this
      simp [Instr.sameBits, bytes_self]
    · cases h
  | false =>
    simp only [cond_false] at h
    obtain ⟨kk, rfl⟩ : ∃ k, d = .int k := hd
    unfold keyEqI at h
    split at h
    · rename_i j p k q
      obtain ⟨hj, h⟩ := cond_some h
      cases h
      have := kindBeq_eq hj
      subst this
      refine ⟨by simp [Instr.sameNow, eqI_eq, beq_dec], rfl, fun e => ?_⟩
      rw [eqI_eq, decide_eq_true_iff] at e
      subst e
      simp [Instr.sameBits]
    · cases h

theorem find_ok {str : Bool} {d : TypeDesc} {x x' : Value} (hd : keyD str d) (hx : V R x x') : ∀ (es : List MapEntry) (i : Nat),
    match findA str x es i with
    | .bad => True
    | .no => Instr.findNow d x' es i = some none
    | .at j v => Instr.findNow d x' es i = some (some (j, v)) ∧ ∃ e, es[j - i]? = some e ∧ i ≤ j ∧ e.val = v ∧ g0 x = true ∧ Instr.sameBits 10000 e.key x = true := by
  intro es
  induction es with
  | nil => intro i; rfl
  | cons e es ih =>
    intro i
    have hstep : findA str x (e :: es) i = (Option.casesOn (keyEq str x e.key) .bad fun b => Bool.casesOn b (findA str x es (i + 1)) (.at i e.val) : FR) := rfl
    rw [hstep]
    cases hk : keyEq str x e.key with
    | none => trivial
    | some b =>
      obtain ⟨h1, h2, h3⟩ := keyEq_some hd hk
      have := hx.eq_of_g0 h2
      subst this
      cases b with
      | true => exact ⟨by simp [Instr.findNow, h1], e, by simp, Nat.le_refl _, rfl, h2, h3 rfl⟩
      | false =>
        have ih := ih (i + 1)
        show match findA str x' es (i + 1) with
          | .bad => True
          | .no => Instr.findNow d x' (e :: es) i = some none
          | .at j v => Instr.findNow d x' (e :: es) i = some (some (j, v)) ∧ ∃ e', (e :: es)[j - i]? = some e' ∧ i ≤ j ∧ e'.val = v ∧ g0 x' = true ∧ Instr.sameBits 10000 e'.key x' = true
        have hf : Instr.findNow d x' (e :: es) i = Instr.findNow d x' es (i + 1) := by simp [Instr.findNow, h1]
        rw [hf]
        cases hfa : findA str x' es (i + 1) with
        | bad => trivial
        | no => rw [hfa] at ih; exact ih
        | «at» j v =>
          rw [hfa] at ih
          obtain ⟨a1, e', a2, a3, a4⟩ := ih
          refine ⟨a1, e', ?_, by omega, a4⟩
          rw [show j - i = (j - (i + 1)) + 1 by omega]
          simpa using a2

theorem run_checkKeyA {key : TypeId} {d : TypeDesc} {str : Bool} (hk : P.underlying key = some d) (hd : keyD str d) (b : Bool) (x : Value) : (Instr.checkKey b 10000 key x).run P w = .ok () w := by
  have : ∀ n, (Instr.checkKey b (n + 1) key x).run P w = .ok () w := by
    intro n
    simp only [Instr.checkKey, Sem.run_bind, run_underlyingA hk, Result.andThen_ok]
    cases str with
    | true => have hd : d = .string := hd; subst hd; cases x <;> rfl
    | false => obtain ⟨k, rfl⟩ : ∃ k, d = .int k := hd; cases x <;> rfl
  exact this 9999

theorem run_findKeyA {key : TypeId} {d : TypeDesc} {x : Value} {es : List MapEntry} {r : Option (Nat × Value)} (hk : P.underlying key = some d) (h : Instr.findNow d x es 0 = some r) : (Instr.findKey key x es).run P w = .ok r w := by
  simp [Instr.findKey, run_underlyingA hk, h]

theorem lookup_ok (hW : WR c R s w) {t : TypeId} {x x' ix ix' v : Value} {ok : Bool} (hx : V R x x') (hi : V R ix ix') (h : lookupA c.P t x ix ok s = some v) :
    ∃ v', (Instr.lookup t x' ix' ok).run c.P w = .ok v' w ∧ V R v v' := by
  unfold lookupA at h
  split at h
  · rename_i str elem es k hkk hm
    obtain ⟨key, d, hu, hk, hd⟩ := keyKind_some hkk
    have hf := find_ok hd hi es 0
    have hmain : ∀ (r : Option (Nat × Value)) (vv : Value) (b : Bool), Instr.findNow d ix' es 0 = some r → ((match r with | some (_, v) => pure (v, true) | none => do pure (← zeroValue elem, false)) : Sem (Value × Bool)).run c.P w = .ok (vv, b) w →
        (Instr.lookup t x' ix' ok).run c.P w = .ok (if ok then .tuple #[vv, .bool b] else vv) w := by
      intro r vv b h1 h2
      have hfk := run_findKeyA (w := w) hk h1
      have hz : r = none → (zeroValue elem).run c.P w = .ok vv w ∧ b = false := by
        intro e
        subst e
        simp only [Sem.run_bind] at h2
        cases hzz : (zeroValue elem).run c.P w with
        | ok u w2 => rw [hzz] at h2; simp at h2; exact ⟨by rw [h2.1.1, h2.2], h2.1.2⟩
        | halt _ _ => rw [hzz] at h2; cases h2
      rcases mapOf_some hW hx hm with ⟨rfl, rfl⟩ | ⟨bb, rfl, hb⟩
      · have hck := run_checkKeyA (w := w) hk hd true ix'
        simp [Instr.findNow] at h1
        subst h1
        obtain ⟨z1, z2⟩ := hz rfl
        subst z2
        simp only [Instr.lookup, Sem.run_bind, run_underlyingA hu, Result.andThen_ok, Sem.run_pure]
        rw [show (#[] : Array MapEntry).isEmpty = true from rfl, hck]
        simp only [Result.andThen_ok]
        rw [hfk]
        simp only [Result.andThen_ok, Sem.run_bind, z1, Sem.run_pure]
      · have hgo : (getObj bb).run c.P w = .ok (.map ⟨es⟩ k) w := by simp [getObj, Sem.run, hb]
        have hck := run_checkKeyA (w := w) hk hd (⟨es⟩ : Array MapEntry).isEmpty ix'
        simp only [Instr.lookup, Sem.run_bind, run_underlyingA hu, Result.andThen_ok, Sem.run_pure, hgo, hck, hfk]
        cases r with
        | none =>
          obtain ⟨z1, z2⟩ := hz rfl
          subst z2
          simp only [Sem.run_bind, z1, Result.andThen_ok, Sem.run_pure]
        | some p =>
          simp at h2
          obtain ⟨rfl, rfl⟩ := h2
          simp only [Sem.run_bind, Result.andThen_ok, Sem.run_pure]
    unfold lookOut at h
    split at h
    · rename_i vv b hr
      have hfin : ∃ u, v = (if ok then .tuple #[vv, .bool b] else vv) ∧ u = v ∧ Ev.ground v = true := by
        unfold g0O at h
        cases ok with
        | true => simp only [cond_true] at h; obtain ⟨h1, h2⟩ := cond_some h; cases h2; exact ⟨_, rfl, rfl, h1⟩
        | false => simp only [cond_false] at h; obtain ⟨h1, h2⟩ := cond_some h; cases h2; exact ⟨_, rfl, rfl, h1⟩
      obtain ⟨_, hv, _, hg⟩ := hfin
      refine ⟨v, ?_, .of_ground hg⟩
      rw [hv]
      unfold lookRes at hr
      split at hr
      · rename_i j vj hfa
        cases hr
        rw [hfa] at hf
        exact hmain _ _ _ hf.1 rfl
      · rename_i hfa
        rw [hfa] at hf
        split at hr
        · rename_i z hz
          cases hr
          unfold zeroV at hz
          split at hz
          · rename_i i hi'
            exact hmain _ _ _ hf (by simp [run_zeroA hi' hz])
          · cases hz
        · cases hr
      · cases hr
    · cases h
  · cases h

theorem setEnt_ok {es r : List MapEntry} {i : Nat} {k v : Value} (h : setEnt es i k v = some r) : (⟨es⟩ : Array MapEntry).modify i (fun e => { e with key := k, val := v }) = ⟨r⟩ := by
  unfold setEnt at h
  rw [drop_eq] at h
  split at h
  · rename_i e q hd
    obtain ⟨hle, rfl, _⟩ := splice_some h
    apply Array.ext'
    apply List.ext_getElem?
    intro j
    have he : es[i]? = some e := by
      have := congrArg (fun l => l[0]?) hd
      simpa [List.getElem?_drop] using this
    simp only [List.length_singleton] at hle ⊢
    simp only [Array.toList_modify, List.getElem?_modify, List.getElem?_append, List.length_append, List.length_take, List.length_singleton, List.getElem?_take, List.getElem?_drop]
    by_cases hj : i = j
    · subst hj
      have : min i es.length = i := by omega
      simp [he, this]
    · rcases Nat.lt_or_gt_of_ne hj with hlt | hgt
      · have h1 : ¬ j < min i es.length + 1 := by omega
        have h2 : i + 1 + (j - (min i es.length + 1)) = j := by omega
        simp [hj, h1, h2]
      · have h1 : j < min i es.length + 1 := by omega
        have h2 : j < min i es.length := by omega
        have h3 : j < i := by omega
        simp [hj, h1, h2, h3]
  · cases h

theorem update_ok (hW : WR c R s w) {t : TypeId} {m m' k k' v v' : Value} {s' : St} (hm : V R m m') (hk : V R k k') (hv : V R v v') (h : updateA c.P t m k v s = some s') :
    ∃ w', (Instr.mapUpdate t m' k' v').run c.P w = .ok () w' ∧ WR c R s' w' ∧ Ext R R s s' := by
  unfold updateA at h
  split at h
  · rename_i str elem r hkk hg
    obtain ⟨key, d, hu, hkd, hd⟩ := keyKind_some hkk
    simp only [Bool.and_eq_true] at hg
    have hkg : g0 k = true := by
      have := hg.1
      unfold isKey at this
      split at this
      · rfl
      · rfl
      · cases this
    have := hk.eq_of_g0 hkg
    subst this
    have := hv.eq_of_ground hg.2
    subst this
    split at h
    · rename_i es cl hget
      obtain ⟨im, hi, rfl⟩ := hm.inv_map
      obtain ⟨ob, hb, hob⟩ := hW.obj r im _ hi hget
      have hob : ob = .map ⟨es⟩ cl := hob
      subst hob
      have hgo : (getObj im.b).run c.P w = .ok (.map ⟨es⟩ cl) w := by simp [getObj, Sem.run, hb]
      have hso : ∀ o : Obj, (setObj im.b o).run c.P w = .ok () (setH w im.b o) := fun o => by simp [setObj, Sem.run, hb, setH]
      unfold updA at h
      obtain ⟨hN, h⟩ := cond_some h
      have hN : NG ≤ r := le_of_ble hN
      have hck := run_checkKeyA (w := w) hkd hd false k'
      have hf := find_ok (R := R) hd hk es 0
      unfold updG at h
      split at h
      · rename_i j vj hfa
        rw [hfa] at hf
        obtain ⟨a1, e, a2, _, _, _, a6⟩ := hf
        split at h
        · rename_i es' hse
          cases h
          have hput := hW.put (o' := .map es' cl) (ob' := .map ⟨es'⟩ cl) hi hget hN rfl
          refine ⟨_, ?_, hput.1, hput.2⟩
          have hfk := run_findKeyA (w := w) hkd a1
          have hks : (Instr.keyThatStays e.key k').run c.P w = .ok k' w := by simp [Instr.keyThatStays, a6]
          have hej : ((⟨es⟩ : Array MapEntry)[j]?) = some e := by simpa using a2
          simp only [Instr.mapUpdate, Sem.run_bind, run_underlyingA hu, Result.andThen_ok, hgo, hck, hfk, hej, Option.map_some, Option.getD_some, hks, hso, setEnt_ok hse]
        · cases h
      · rename_i hfa
        rw [hfa] at hf
        cases h
        rw [app_eq]
        have hput := hW.put (o' := .map (es ++ [(⟨k', v', cl⟩ : MapEntry)]) (cl + 1)) (ob' := .map ⟨es ++ [(⟨k', v', cl⟩ : MapEntry)]⟩ (cl + 1)) hi hget hN rfl
        refine ⟨_, ?_, hput.1, hput.2⟩
        have hfk := run_findKeyA (w := w) hkd hf
        simp only [Instr.mapUpdate, Sem.run_bind, run_underlyingA hu, Result.andThen_ok, hgo, hck, hfk, hso]
        congr 3
        apply Array.ext'
        simp
      · cases h
    · cases h
  · cases h

theorem range_ok (hW : WR c R s w) {t : TypeId} {x x' v : Value} {s' : St} (hx : V R x x') (h : rangeA c.P t x s = .v v s') :
    ∃ v' w' R', (Instr.range t x').run c.P w = .ok v' w' ∧ V R' v v' ∧ WR c R' s' w' ∧ Ext R R' s s' := by
  unfold rangeA at h
  split at h
  · rename_i b hu
    cases h
    have := hx.inv_string; subst this
    have hn := hW.new (o := .iter b 0) (ob := .stringIter b 0) (cap := 0) ⟨rfl, rfl⟩
    refine ⟨.pointer (some ⟨w.heap.size, 0, none⟩), _, _, ?_, ?_, hn.1, hn.2⟩
    · simp [Instr.range, run_underlyingA hu]
      rfl
    · simpa using V.ptr (R := R.add s.n ⟨w.heap.size, 0, 0⟩) (o := 0) Rel.add_same
  · cases h

theorem next_ok (hW : WR c R s w) {ty : TypeId} {x x' v : Value} {b : Bool} {s' : St} (hx : V R x x') (h : nextA x b s = .v v s') :
    ∃ v' w', (Instr.next x' b ty).run c.P w = .ok v' w' ∧ V R v v' ∧ WR c R s' w' ∧ Ext R R s s' := by
  unfold nextA at h
  split at h
  · rename_i r
    split at h
    · rename_i bs pos hg
      obtain ⟨im, hi, rfl⟩ := hx.inv_ptr
      obtain ⟨ob, hb, hob, hbase⟩ := hW.obj r im _ hi hg
      subst hob
      have hgo : (getObj im.b).run c.P w = .ok (.stringIter bs pos) w := by simp [getObj, Sem.run, hb]
      have hso : ∀ o : Obj, (setObj im.b o).run c.P w = .ok () (setH w im.b o) := fun o => by simp [setObj, Sem.run, hb, setH]
      have hsz : len bs.data.toList = bs.size := by rw [len_eq]; exact Array.length_toList
      rw [hsz] at h
      rw [hbase]
      cases hc : (own r && Nat.ble (pos + 1) bs.size) with
      | true =>
        rw [hc, cond_true] at h
        simp only [Bool.and_eq_true] at hc
        have hN : NG ≤ r := le_of_ble hc.1
        have hlt : pos < bs.size := le_of_ble hc.2
        split at h
        · rename_i dd hd
          unfold ascii at hd
          rw [drop_eq] at hd
          split at hd
          · rename_i z q hdr
            obtain ⟨hz, hd⟩ := cond_some hd
            cases hd
            have hz := le_of_ble hz
            unfold nextRune at h
            cases h
            have hzz : bs[pos]'hlt = z := by
              have := congrArg (fun l => l[0]?) hdr
              simp [List.getElem?_drop] at this
              have h2 := byteArray_get bs pos
              rw [this] at h2
              rw [ByteArray.getElem?_lt' bs pos hlt] at h2
              exact Option.some.inj h2
            have hdec := decode_ascii bs pos hlt (by rw [hzz]; omega)
            have hput := hW.put (o' := .iter bs (pos + 1)) (ob' := .stringIter bs (pos + 1)) hi hg hN ⟨rfl, hbase⟩
            refine ⟨.tuple #[.bool true, goInt pos, .int .i32 z.toNat], _, ?_, ?_, hput.1, hput.2⟩
            · simp only [Instr.next, Nat.zero_add, Sem.run_bind, hgo, Result.andThen_ok, hlt, if_true, hdec, hzz, hso, Sem.run_pure]
            · exact .tuple (.cons (.ground rfl) (.cons (.ground rfl) (.cons (.ground rfl) .nil)))
          · cases hd
        · cases h
      | false =>
        rw [hc, cond_false] at h
        cases hc2 : Nat.ble bs.size pos with
        | false => rw [hc2] at h; cases h
        | true =>
          rw [hc2, cond_true] at h
          cases h
          have hge := le_of_ble hc2
          have hnlt : ¬ pos < bs.size := by omega
          refine ⟨.tuple #[.bool false], w, ?_, .tuple (.cons (.ground rfl) .nil), hW, .refl R _⟩
          simp only [Instr.next, Nat.zero_add, Sem.run_bind, hgo, Result.andThen_ok, hnlt, if_false, Sem.run_pure]
    · cases h
  · cases h
end
end Go.Ev
/- The evaluator: each operation is what the model runs. -/
namespace Go.Ev
open Go

/-- what a program must be for it -/
structure PH (P : Program) : Prop where
  ne : ∀ (x : Value) (w : World), (callFunc NE #[x]).run P w = .ok (.value x) w
  ib : ∀ (b : ByteArray) (n : Int) (w : World), (callFunc IB #[.string b, .int .u8 n]).run P w = .ok (.value (.int .i64 (firstIdx b n.toNat.toUInt8))) w
  mixed : P.follows .mixedOrders = true

section
variable {c : Cx} {P : Program} {R : Rel} {s : St} {w : World}

theorem find_congr {α : Type} {p q : α → Bool} : ∀ {l : List α}, (∀ x ∈ l, p x = q x) → l.find? p = l.find? q
  | [], _ => rfl
  | x :: l, h => by
    rw [List.find?_cons, List.find?_cons, h x (by simp), find_congr (fun y hy => h y (by simp [hy]))]

theorem idxL_eq (n : Nat) : ∀ (l : List UInt8) (i : Nat), idxL n l i = match (List.range l.length).find? (fun j => match l[j]? with | some x => x.toNat == n | none => false) with | some j => Int.ofNat (i + j) | none => -1 := by
  intro l
  induction l with
  | nil => intro i; rfl
  | cons x l ih =>
    intro i
    have hstep : idxL n (x :: l) i = (Bool.casesOn (Nat.beq x.toNat n) (idxL n l (i + 1)) (Int.ofNat i) : Int) := rfl
    rw [hstep, List.length_cons, List.range_succ_eq_map, List.find?_cons]
    cases hb : Nat.beq x.toNat n with
    | true =>
      have := Nat.eq_of_beq_eq_true hb
      simp [this]
    | false =>
      have := nbeq hb
      simp only [List.getElem?_cons_zero, beq_eq_false_iff_ne.2 this]
      rw [List.find?_map, ih]
      have : ((fun j => match (x :: l)[j]? with | some x => x.toNat == n | none => false) ∘ Nat.succ) = fun j => match l[j]? with | some x => x.toNat == n | none => false := by
        funext j; simp
      rw [this]
      cases (List.range l.length).find? (fun j => match l[j]? with | some x => x.toNat == n | none => false) with
      | none => rfl
      | some j => simp only [Option.map_some]; congr 1; omega

theorem firstIdx_eq (b : ByteArray) (n : Nat) (hn : n ≤ 255) : firstIdx b (Int.ofNat n).toNat.toUInt8 = idxL n b.data.toList 0 := by
  rw [idxL_eq]
  unfold firstIdx
  have hl : b.data.toList.length = b.size := Array.length_toList
  rw [hl]
  rw [find_congr (q := fun j => match b.data.toList[j]? with | some x => x.toNat == n | none => false)]
  · cases (List.range b.size).find? (fun j => match b.data.toList[j]? with | some x => x.toNat == n | none => false) with
    | none => rfl
    | some j => simp
  · intro i hi
    rw [List.mem_range] at hi
    have h1 : b.data.toList[i]? = some (b[i]'hi) := by
      rw [Array.getElem?_toList, ← byteArray_get, ByteArray.getElem?_lt' b i hi]
    rw [h1, getElem!_pos b i hi]
    simp only [Int.ofNat_eq_natCast, Int.toNat_natCast]
    by_cases e : (b[i]'hi).toNat = n
    · have : b[i]'hi = n.toUInt8 := UInt8.toNat_inj.1 (by rw [e]; simp; omega)
      rw [this]; simp; omega
    · have : b[i]'hi ≠ n.toUInt8 := fun e' => e (by rw [e']; simp; omega)
      rw [beq_eq_false_iff_ne.2 this, beq_eq_false_iff_ne.2 e]

/-- what a step of the evaluator says of the model's -/
def Good (c : Cx) (R : Rel) (s : St) (r : OR) (res : Result Next) : Prop := match r with
  | .fail => True
  | .v v s' => ∃ v' w' R', res = .ok (.value v') w' ∧ V R' v v' ∧ WR c R' s' w' ∧ Ext R R' s s'
  | .k s' => ∃ w' R', res = .ok .skip w' ∧ WR c R' s' w' ∧ Ext R R' s s'
  | .c f args s' => ∃ args' w', res = .ok (.enter f ⟨args'⟩) w' ∧ s' = s ∧ VL R args args' ∧ WR c R s w'
  | .r i args s' => ∃ m args' w', R i = some m ∧ res = (Instr.yield m.b ⟨args'⟩).run c.P w' ∧ s' = s ∧ VL R args args' ∧ WR c R s w'

theorem good_v {m : Sem Value} {r : OR} (h : ∀ v s', r = .v v s' → ∃ v' w' R', m.run c.P w = .ok v' w' ∧ V R' v v' ∧ WR c R' s' w' ∧ Ext R R' s s') (hv : ∀ f, r ≠ .k f) (hc : ∀ f a q, r ≠ .c f a q) (hr : ∀ f a q, r ≠ .r f a q) :
    Good c R s r (((do pure (.value (← m))) : Sem Next).run c.P w) := by
  cases r with
  | fail => trivial
  | v v s' =>
    obtain ⟨v', w', R', h1, h2⟩ := h v s' rfl
    exact ⟨v', w', R', by simp only [Sem.run_bind, h1, Result.andThen_ok, Sem.run_pure], h2⟩
  | k q => exact absurd rfl (hv q)
  | c f a q => exact absurd rfl (hc f a q)
  | r f a q => exact absurd rfl (hr f a q)
theorem good_o (hW : WR c R s w) {m : Sem Value} {o : Option Value} (h : ∀ v, o = some v → ∃ v', m.run c.P w = .ok v' w ∧ V R v v') :
    Good c R s (orV o s) (((do pure (.value (← m))) : Sem Next).run c.P w) := by
  cases o with
  | none => trivial
  | some v =>
    obtain ⟨v', h1, h2⟩ := h v rfl
    exact ⟨v', w, R, by simp only [Sem.run_bind, h1, Result.andThen_ok, Sem.run_pure], h2, hW, .refl R s⟩
theorem good_k {m : Sem Unit} {o : Option St} (h : ∀ s', o = some s' → ∃ w' R', m.run c.P w = .ok () w' ∧ WR c R' s' w' ∧ Ext R R' s s') :
    Good c R s (orS o) (((do m; pure .skip) : Sem Next).run c.P w) := by
  cases o with
  | none => trivial
  | some s' =>
    obtain ⟨w', R', h1, h2⟩ := h s' rfl
    exact ⟨w', R', by simp only [Sem.run_bind, h1, Result.andThen_ok, Sem.run_pure], h2⟩

theorem callFunc_own {g : FuncId} (h : funcKind P g = .own) (args : Array Value) : (callFunc g args).run P w = .ok (.enter g args) w := by
  unfold funcKind at h
  split at h
  · cases h
  · rename_i fn hf
    split at h
    · rename_i b hb
      cases hn : (fn.name == "runtime.NumGoroutine") with
      | true => rw [hn] at h; cases h
      | false =>
        have h1 : fn.name ≠ "runtime.NumGoroutine" := by simpa using hn
        simp [callFunc, hf, h1, hb]
    · cases h

theorem callG_ok (H : PH c.P) (hW : WR c R s w) {g : FuncId} {args args' : List Value} (ha : VL R args args') : Good c R s (callG c.P g args s) ((callFunc g ⟨args'⟩).run c.P w) := by
  unfold callG
  cases h1 : Nat.beq g NE with
  | true =>
    have := Nat.eq_of_beq_eq_true h1
    subst this
    rw [cond_true]
    unfold oneArg
    split
    · cases ha with
      | cons hx hs =>
        cases hs
        exact ⟨_, w, R, H.ne _ w, hx, hW, .refl R s⟩
    · trivial
  | false =>
    rw [cond_false]
    cases h2 : Nat.beq g IB with
    | true =>
      have := Nat.eq_of_beq_eq_true h2
      subst this
      rw [cond_true]
      unfold idxByte
      split
      · rename_i b n
        cases h3 : Nat.ble n 255 with
        | false => trivial
        | true =>
          rw [cond_true]
          cases ha with
          | cons hx hs =>
            cases hs with
            | cons hy hs =>
              cases hs
              have := hx.inv_string; subst this
              have := hy.inv_int; subst this
              refine ⟨_, w, R, H.ib b _ w, ?_, hW, .refl R s⟩
              rw [firstIdx_eq b n (le_of_ble h3)]
              exact .ground rfl
      · trivial
    | false =>
      rw [cond_false]
      split
      · rename_i hk
        exact ⟨args', w, callFunc_own hk _, rfl, ha, hW⟩
      · trivial

theorem callA_ok (H : PH c.P) (hW : WR c R s w) {f f' : Value} {args args' : List Value} (hf : V R f f') (ha : VL R args args') :
    Good c R s (callA c.P f args s) ((do let d ← Deferred.ofValue f' ⟨args'⟩; invoke d.target d.args : Sem Next).run c.P w) := by
  unfold callA
  split
  · rename_i g first captured
    obtain ⟨g', xs, ys, hg, rfl, hx, hy⟩ := hf.inv_func
    cases hg
    rw [app_eq, app_eq]
    have := callG_ok H hW (g := g) (hx.append (ha.append hy))
    have e : ((do let d ← Deferred.ofValue (.func (.func g) ⟨xs⟩ ⟨ys⟩) ⟨args'⟩; invoke d.target d.args : Sem Next).run c.P w) = (callFunc g ⟨xs ++ (args' ++ ys)⟩).run c.P w := by
      simp only [Deferred.ofValue, Sem.run_bind, Sem.run_pure, Result.andThen_ok, invoke]
      congr 2
      apply Array.ext'
      simp
    rw [e]
    exact this
  · rename_i i first captured
    cases hb : Nat.beq (len first.toList + len captured.toList) 0 with
    | false => trivial
    | true =>
      rw [cond_true]
      obtain ⟨m, hm, rfl⟩ := hf.inv_yld
      refine ⟨m, args', w, hm, ?_, rfl, ha, hW⟩
      simp only [Deferred.ofValue, Sem.run_bind, Sem.run_pure, Result.andThen_ok, invoke]
      congr 2
      apply Array.ext'
      simp
  · trivial
end
end Go.Ev
/- The evaluator: one operation, whichever it is. -/
namespace Go.Ev
open Go

section
variable {c : Cx} {P : Program} {R : Rel} {s : St} {w : World}

theorem list_eval {t : A} {a : Act} : ∀ {l : List Operand}, (∀ x ∈ l, V R (t.eval x) (a.eval x)) → VL R (map t.eval l) (l.map a.eval)
  | [], _ => .nil
  | x :: l, h => .cons (h x (by simp)) (list_eval fun y hy => h y (by simp [hy]))
theorem parts_eval' {t : A} {a : Act} : ∀ {l : List (Nat × Operand)}, (∀ x ∈ l, V R (t.eval x.2) (a.eval x.2)) → VP R (partsE t l) (l.map fun p => (p.1, a.eval p.2))
  | [], _ => .nil
  | x :: l, h => .cons (h x (by simp)) (parts_eval' fun y hy => h y (by simp [hy]))
theorem opt_eval {t : A} {a : Act} {o : Option Operand} (h : ∀ x, o = some x → V R (t.eval x) (a.eval x)) : VO R (optE t o) (o.map a.eval) := by
  cases o with
  | none => exact .no
  | some x => exact .yes (h x rfl)

theorem append_isV {es : Option (TypeId × Nat)} {t2 : TypeId} {v x : Value} : (∀ q, appendA P es t2 v x s ≠ .k q) ∧ (∀ f a q, appendA P es t2 v x s ≠ .c f a q) ∧ ∀ f a q, appendA P es t2 v x s ≠ .r f a q := by
  refine ⟨?_, ?_, ?_⟩
  · intro f h
    unfold appendA appSrc appGo appNew appSome appOpen appShut appIn appOut at h
    repeat' (first | (cases h; done) | split at h)
    all_goals (try (simp only [cond] at h; repeat' (first | (cases h; done) | split at h)))
  · intro f a q h
    unfold appendA appSrc appGo appNew appSome appOpen appShut appIn appOut at h
    repeat' (first | (cases h; done) | split at h)
    all_goals (try (simp only [cond] at h; repeat' (first | (cases h; done) | split at h)))
  · intro f a q h
    unfold appendA appSrc appGo appNew appSome appOpen appShut appIn appOut at h
    repeat' (first | (cases h; done) | split at h)
    all_goals (try (simp only [cond] at h; repeat' (first | (cases h; done) | split at h)))
theorem copy_isV {es : Option (TypeId × Nat)} {v x : Value} : (∀ q, copyA es v x s ≠ .k q) ∧ (∀ f a q, copyA es v x s ≠ .c f a q) ∧ ∀ f a q, copyA es v x s ≠ .r f a q := by
  refine ⟨?_, ?_, ?_⟩
  · intro f h
    unfold copyA copySrc copyGo at h
    repeat' (first | (cases h; done) | split at h)
  · intro f a q h
    unfold copyA copySrc copyGo at h
    repeat' (first | (cases h; done) | split at h)
  · intro f a q h
    unfold copyA copySrc copyGo at h
    repeat' (first | (cases h; done) | split at h)
theorem unsafeStr_isV {t : TypeId} {v x : Value} : (∀ q, unsafeStrA P t v x s ≠ .k q) ∧ (∀ f a q, unsafeStrA P t v x s ≠ .c f a q) ∧ ∀ f a q, unsafeStrA P t v x s ≠ .r f a q := by
  refine ⟨?_, ?_, ?_⟩
  · intro f h
    unfold unsafeStrA strAt at h
    repeat' (first | (cases h; done) | split at h)
    all_goals (try (simp only [cond] at h; repeat' (first | (cases h; done) | split at h)))
  · intro f a q h
    unfold unsafeStrA strAt at h
    repeat' (first | (cases h; done) | split at h)
    all_goals (try (simp only [cond] at h; repeat' (first | (cases h; done) | split at h)))
  · intro f a q h
    unfold unsafeStrA strAt at h
    repeat' (first | (cases h; done) | split at h)
    all_goals (try (simp only [cond] at h; repeat' (first | (cases h; done) | split at h)))
theorem convert_isV {src dst : TypeId} {x : Value} : (∀ q, convertA P src dst x s ≠ .k q) ∧ (∀ f a q, convertA P src dst x s ≠ .c f a q) ∧ ∀ f a q, convertA P src dst x s ≠ .r f a q := by
  refine ⟨?_, ?_, ?_⟩
  · intro f h
    unfold convertA convStrBytes convMark toUns fromUns orV at h
    repeat' (first | (cases h; done) | split at h)
    all_goals (try (simp only [cond] at h; repeat' (first | (cases h; done) | split at h)))
  · intro f a q h
    unfold convertA convStrBytes convMark toUns fromUns orV at h
    repeat' (first | (cases h; done) | split at h)
    all_goals (try (simp only [cond] at h; repeat' (first | (cases h; done) | split at h)))
  · intro f a q h
    unfold convertA convStrBytes convMark toUns fromUns orV at h
    repeat' (first | (cases h; done) | split at h)
    all_goals (try (simp only [cond] at h; repeat' (first | (cases h; done) | split at h)))
theorem alloc_isV {z : Option (List Value)} {e : TypeId} : (∀ q, allocO z e s ≠ .k q) ∧ (∀ f a q, allocO z e s ≠ .c f a q) ∧ ∀ f a q, allocO z e s ≠ .r f a q := by
  refine ⟨?_, ?_, ?_⟩
  · intro f h
    unfold allocO at h
    repeat' (first | (cases h; done) | split at h)
  · intro f a q h
    unfold allocO at h
    repeat' (first | (cases h; done) | split at h)
  · intro f a q h
    unfold allocO at h
    repeat' (first | (cases h; done) | split at h)
theorem buildSlice_isV {es : Option (TypeId × Nat)} {k : Nat} {parts : List (Nat × Value)} : (∀ q, buildSliceA es P k parts s ≠ .k q) ∧ (∀ f a q, buildSliceA es P k parts s ≠ .c f a q) ∧ ∀ f a q, buildSliceA es P k parts s ≠ .r f a q := by
  refine ⟨?_, ?_, ?_⟩
  · intro f h
    unfold buildSliceA buildCells buildEmpty at h
    simp only [cond] at h
    repeat' (first | (cases h; done) | split at h)
  · intro f a q h
    unfold buildSliceA buildCells buildEmpty at h
    simp only [cond] at h
    repeat' (first | (cases h; done) | split at h)
  · intro f a q h
    unfold buildSliceA buildCells buildEmpty at h
    simp only [cond] at h
    repeat' (first | (cases h; done) | split at h)
theorem makeSlice_isV {es : Option (TypeId × Nat)} {l k : Value} : (∀ q, makeSliceA P es l k s ≠ .k q) ∧ (∀ f a q, makeSliceA P es l k s ≠ .c f a q) ∧ ∀ f a q, makeSliceA P es l k s ≠ .r f a q := by
  refine ⟨?_, ?_, ?_⟩
  · intro f h
    unfold makeSliceA mkSlice at h
    simp only [cond] at h
    repeat' (first | (cases h; done) | split at h)
  · intro f a q h
    unfold makeSliceA mkSlice at h
    simp only [cond] at h
    repeat' (first | (cases h; done) | split at h)
  · intro f a q h
    unfold makeSliceA mkSlice at h
    simp only [cond] at h
    repeat' (first | (cases h; done) | split at h)
theorem makeMap_isV {t : TypeId} {x : Option Value} : (∀ q, makeMapA P t x s ≠ .k q) ∧ (∀ f a q, makeMapA P t x s ≠ .c f a q) ∧ ∀ f a q, makeMapA P t x s ≠ .r f a q := by
  refine ⟨?_, ?_, ?_⟩
  · intro f h
    unfold makeMapA at h
    repeat' (first | (cases h; done) | split at h)
  · intro f a q h
    unfold makeMapA at h
    repeat' (first | (cases h; done) | split at h)
  · intro f a q h
    unfold makeMapA at h
    repeat' (first | (cases h; done) | split at h)
theorem range_isV {t : TypeId} {x : Value} : (∀ q, rangeA P t x s ≠ .k q) ∧ (∀ f a q, rangeA P t x s ≠ .c f a q) ∧ ∀ f a q, rangeA P t x s ≠ .r f a q := by
  refine ⟨?_, ?_, ?_⟩
  · intro f h
    unfold rangeA at h
    repeat' (first | (cases h; done) | split at h)
  · intro f a q h
    unfold rangeA at h
    repeat' (first | (cases h; done) | split at h)
  · intro f a q h
    unfold rangeA at h
    repeat' (first | (cases h; done) | split at h)
theorem next_isV {x : Value} {b : Bool} : (∀ q, nextA x b s ≠ .k q) ∧ (∀ f a q, nextA x b s ≠ .c f a q) ∧ ∀ f a q, nextA x b s ≠ .r f a q := by
  refine ⟨?_, ?_, ?_⟩
  · intro f h
    unfold nextA nextRune at h
    simp only [cond] at h
    repeat' (first | (cases h; done) | split at h)
  · intro f a q h
    unfold nextA nextRune at h
    simp only [cond] at h
    repeat' (first | (cases h; done) | split at h)
  · intro f a q h
    unfold nextA nextRune at h
    simp only [cond] at h
    repeat' (first | (cases h; done) | split at h)

theorem builtin_ok (hW : WR c R s w) {b : Builtin} {ts : List TypeId} {ty : TypeId} {cs : Array Bool} {args args' : List Value} (ha : VL R args args') :
    Good c R s (builtinA c.P b ts args s) ((builtin b ⟨ts⟩ ty cs ⟨args'⟩).run c.P w) := by
  unfold builtinA
  split
  · split
    · rename_i t t2 tr
      split
      · cases ha with
        | cons hv hs =>
          cases hs with
          | cons hx hs =>
            cases hs
            exact good_v (m := Builtin.append_ ⟨t :: t2 :: tr⟩ ty ⟨[_, _]⟩) (fun r s' h => append_ok hW (by simp) (by simp) hv hx h) append_isV.1 append_isV.2.1 append_isV.2.2
      · trivial
    · trivial
  · split
    · rename_i t tr
      split
      · cases ha with
        | cons hv hs =>
          cases hs with
          | cons hx hs =>
            cases hs
            exact good_v (m := Builtin.copy_ ⟨t :: tr⟩ ty ⟨[_, _]⟩) (fun r s' h => by
              obtain ⟨r', w', h1, h2, h3, h4⟩ := copy_ok (ts := ⟨t :: tr⟩) (ty := ty) hW (by simp) hv hx h
              exact ⟨r', w', R, h1, h2, h3, h4⟩) copy_isV.1 copy_isV.2.1 copy_isV.2.2
      · trivial
    · trivial
  · split
    · rename_i t tr
      split
      · cases ha with
        | cons hx hs =>
          cases hs
          exact good_o (m := Builtin.len_ ⟨t :: tr⟩ ty ⟨[_]⟩) hW fun v h => len_ok (ts := ⟨t :: tr⟩) hW (by simp) hx h
      · trivial
    · trivial
  · split
    · cases ha with
      | cons hx hs =>
        cases hs
        exact good_o (m := Builtin.unsafeSliceData_ ⟨ts⟩ ty ⟨[_]⟩) hW fun v h => data_ok hx h
    · trivial
  · split
    · rename_i t tr
      split
      · cases ha with
        | cons hv hs =>
          cases hs with
          | cons hx hs =>
            cases hs
            exact good_v (m := Builtin.unsafeString_ ⟨t :: tr⟩ ty ⟨[_, _]⟩) (fun r s' h => by
              obtain ⟨r', w', h1, h2, h3, h4⟩ := unsafeStr_ok (ts := tr) (ty := ty) hW hv hx h
              exact ⟨r', w', R, h1, h2, h3, h4⟩) unsafeStr_isV.1 unsafeStr_isV.2.1 unsafeStr_isV.2.2
      · trivial
    · trivial
  · exact good_o (m := Builtin.min_ ⟨ts⟩ ty ⟨args'⟩) hW fun v h => by
      obtain ⟨h1, h2⟩ := min_ok (P := c.P) (w := w) (ts := ⟨ts⟩) (ty := ty) (mx := false) ha h
      exact ⟨v, h1, .ground h2⟩
  · exact good_o (m := Builtin.max_ ⟨ts⟩ ty ⟨args'⟩) hW fun v h => by
      obtain ⟨h1, h2⟩ := min_ok (P := c.P) (w := w) (ts := ⟨ts⟩) (ty := ty) (mx := true) ha h
      exact ⟨v, h1, .ground h2⟩
  · trivial

theorem call_ok (H : PH c.P) (hW : WR c R s w) {t : A} {a : Act} {cl : Call} {ty : TypeId} (hE : ∀ x ∈ cl.operands, V R (t.eval x) (a.eval x)) :
    Good c R s (callE c.P cl t s) ((do let d ← resolve a.eval cl ty; invoke d.target d.args : Sem Next).run c.P w) := by
  have hargs : VL R (map t.eval cl.args.toList) (cl.args.map a.eval).toList := by
    rw [Array.toList_map]
    exact list_eval fun x hx => hE x (by unfold Call.operands; exact Array.mem_append_right _ (by simpa using hx))
  unfold callE
  cases hc : cl.callee with
  | value f =>
    have hf : V R (t.eval f) (a.eval f) := hE f (by simp [Call.operands, hc])
    have := callA_ok H hW hf hargs
    simpa only [resolve, hc] using this
  | builtin b =>
    have := builtin_ok (ts := cl.argTypes.toList) (ty := ty) (b := b) (cs := cl.args.map fun | .const _ => true | _ => false) hW hargs
    simp only [resolve, hc, Sem.run_bind, Sem.run_pure, Result.andThen_ok, invoke]
    exact this
  | invoke _ _ => trivial

theorem okOper_some {R : Rel} {ro : Option Nat} {t : A} {a : Act} {o : Oper} (hA : AR ro R t a) (hW : WR c R s w) (hok : okOper o = true) : ∀ x ∈ o.op.operands, V R (t.eval x) (a.eval x) := by
  intro x hx
  unfold okOper at hok
  rw [all_eq, List.all_eq_true] at hok
  exact hA.eval hW x (hok x (by simpa using hx))

set_option maxHeartbeats 2000000 in
theorem evalOp_ok (H : PH c.P) (hW : WR c R s w) {t : A} {a : Act} {o : Oper} (hE : ∀ x ∈ o.op.operands, V R (t.eval x) (a.eval x)) :
    Good c R s (evalOp c.P o.op t s) ((execOp a.eval o).run c.P w) := by
  unfold evalOp execOp
  cases hop : o.op <;> rw [hop] at hE <;> simp only [Op.operands] at hE <;> simp only
  case move x => exact ⟨_, w, R, rfl, hE x (by simp), hW, .refl R s⟩
  case assign x => exact ⟨_, w, R, rfl, hE x (by simp), hW, .refl R s⟩
  case pick p x y =>
    have h1 := hE p (by simp)
    have h2 := hE x (by simp)
    have h3 := hE y (by simp)
    cases hp : pickA (t.eval p) (t.eval x) (t.eval y) with
    | none => trivial
    | some v =>
      obtain ⟨b, hb, hv⟩ := pick_ok h1 h2 h3 hp
      refine ⟨_, w, R, ?_, hv, hW, .refl R s⟩
      rw [hb]
      cases b <;> simp [asBool]
  case alloc e => exact good_v (m := Instr.alloc e true (.tuple #[])) (fun v s' h => alloc_ok hW h) alloc_isV.1 alloc_isV.2.1 alloc_isV.2.2
  case box e x => exact good_v (m := Instr.box e (a.eval x)) (fun v s' h => box_ok hW (hE x (by simp)) h) alloc_isV.1 alloc_isV.2.1 alloc_isV.2.2
  case build ty parts =>
    refine good_o hW fun v h => ?_
    have hp : VP R (partsE t parts.toList) (parts.toList.map fun p => (p.1, a.eval p.2)) := parts_eval' fun x hx => hE x.2 (by rw [List.mem_toArray]; exact List.mem_map_of_mem hx)
    obtain ⟨v', h1, h2⟩ := build_ok (w := w) hp h
    refine ⟨v', ?_, h2⟩
    rw [← h1]
    congr 2
    apply Array.ext'
    simp
  case buildSlice ty k parts =>
    refine good_v (fun v s' h => ?_) buildSlice_isV.1 buildSlice_isV.2.1 buildSlice_isV.2.2
    have hp : VP R (partsE t parts.toList) (parts.toList.map fun p => (p.1, a.eval p.2)) := parts_eval' fun x hx => hE x.2 (by rw [List.mem_toArray]; exact List.mem_map_of_mem hx)
    obtain ⟨v', w', R', h1, h2⟩ := buildSlice_ok (w := w) hW hp h
    refine ⟨v', w', R', ?_, h2⟩
    rw [← h1]
    congr 2
    apply Array.ext'
    simp
  case insert mt m k x =>
    exact good_k (m := Instr.mapUpdate mt (a.eval m) (a.eval k) (a.eval x)) fun s' h => by
      obtain ⟨w', h1, h2, h3⟩ := update_ok hW (hE m (by simp)) (hE k (by simp)) (hE x (by simp)) h
      exact ⟨w', R, h1, h2, h3⟩
  case mapUpdate mt m k x =>
    exact good_k (m := Instr.mapUpdate mt (a.eval m) (a.eval k) (a.eval x)) fun s' h => by
      obtain ⟨w', h1, h2, h3⟩ := update_ok hW (hE m (by simp)) (hE k (by simp)) (hE x (by simp)) h
      exact ⟨w', R, h1, h2, h3⟩
  case load ty x => exact good_o (m := Instr.loadAt ty (a.eval x)) hW fun v h => load_ok hW (hE x (by simp)) h
  case store ty x y =>
    exact good_k (m := Instr.storeAt ty (a.eval x) (a.eval y)) fun s' h => by
      obtain ⟨w', h1, h2, h3⟩ := store_ok hW (hE x (by simp)) (hE y (by simp)) h
      exact ⟨w', R, h1, h2, h3⟩
  case nilCheck x =>
    have hx := hE x (by simp)
    cases hp : nilCheckA (t.eval x) with
    | none => trivial
    | some v =>
      obtain ⟨rfl, h⟩ := nilCheck_ok hx hp
      refine ⟨a.eval x, w, R, ?_, hx, hW, .refl R s⟩
      rcases h with ⟨p, hp'⟩ | ⟨g, xs, ys, hp'⟩
      · rw [hp']; rfl
      · rw [hp']; rfl
  case binOp op ty x y yt =>
    exact good_o (m := do eqGuard op ty x y (a.eval x) (a.eval y); binOp op ty (a.eval x) (a.eval y)) hW fun v h => bin_ok hW (hE x (by simp)) (hE y (by simp)) h
  case unOp op ty x => exact good_o (m := Op.unary op (a.eval x)) hW fun v h => un_ok (hE x (by simp)) h
  case convert src dst x => exact good_v (m := convert src dst (a.eval x)) (fun v s' h => convert_ok hW (hE x (by simp)) h) convert_isV.1 convert_isV.2.1 convert_isV.2.2
  case makeFunc fn first captured =>
    refine good_o (m := Instr.makeFunc fn (first.map a.eval) (captured.map a.eval)) hW fun v h => ?_
    unfold funcA at h
    split at h
    · cases h
      refine ⟨_, rfl, ?_⟩
      have h1 : VL R (map t.eval first.toList) (first.map a.eval).toList := by
        rw [Array.toList_map]
        exact list_eval fun x hx => hE x (Array.mem_append_left _ (by simpa using hx))
      have h2 : VL R (map t.eval captured.toList) (captured.map a.eval).toList := by
        rw [Array.toList_map]
        exact list_eval fun x hx => hE x (Array.mem_append_right _ (by simpa using hx))
      exact .func h1 h2
    · cases h
  case makeMap ty r =>
    refine good_v (m := Instr.makeMap ty (r.map a.eval)) (fun v s' h => makeMap_ok hW (opt_eval fun x hx => hE x (by simp [hx])) h) makeMap_isV.1 makeMap_isV.2.1 makeMap_isV.2.2
  case makeSlice ty l k => exact good_v (m := Instr.makeSlice ty (a.eval l) (a.eval k)) (fun v s' h => makeSlice_ok hW (hE l (by simp)) (hE k (by simp)) h) makeSlice_isV.1 makeSlice_isV.2.1 makeSlice_isV.2.2
  case slice ty x lo hi mx =>
    exact good_o (m := Instr.sliceAt ty (a.eval x) (lo.map a.eval) (hi.map a.eval) (mx.map a.eval)) hW fun v h =>
      slice_ok (hE x (by simp)) (opt_eval fun y hy => hE y (by simp [hy])) (opt_eval fun y hy => hE y (by simp [hy])) (opt_eval fun y hy => hE y (by simp [hy])) h
  case fieldAddr ty x f => exact good_o (m := Instr.fieldAt ty (a.eval x) f) hW fun v h => fieldAddr_ok (hE x (by simp)) h
  case field ty x f => exact good_o (m := Instr.field ty (a.eval x) f) hW fun v h => field_ok (hE x (by simp)) h
  case indexAddr ty x i => exact good_o (m := Instr.indexAt ty (a.eval x) (a.eval i)) hW fun v h => indexAddr_ok (hE x (by simp)) (hE i (by simp)) h
  case index ty x i => exact good_o (m := Instr.index ty (a.eval x) (a.eval i)) hW fun v h => index_ok (hE x (by simp)) (hE i (by simp)) h
  case lookup ty x i ok => exact good_o (m := Instr.lookup ty (a.eval x) (a.eval i) ok) hW fun v h => lookup_ok hW (hE x (by simp)) (hE i (by simp)) h
  case range ty x => exact good_v (m := Instr.range ty (a.eval x)) (fun v s' h => range_ok hW (hE x (by simp)) h) range_isV.1 range_isV.2.1 range_isV.2.2
  case next x b =>
    exact good_v (m := Instr.next (a.eval x) b o.type) (fun v s' h => by
      obtain ⟨v', w', h1, h2, h3, h4⟩ := next_ok hW (hE x (by simp)) h
      exact ⟨v', w', R, h1, h2, h3, h4⟩) next_isV.1 next_isV.2.1 next_isV.2.2
  case extract x i => exact good_o (m := Instr.extract (a.eval x) i) hW fun v h => extract_ok (hE x (by simp)) h
  case call cl => exact call_ok H hW hE
  all_goals trivial
end
end Go.Ev
