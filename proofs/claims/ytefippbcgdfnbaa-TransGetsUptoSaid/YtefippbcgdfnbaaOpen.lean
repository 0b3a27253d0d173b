import Derived.Test.YtefippbcgdfnbaaRows
import Derived.OpenShut
import Derived.Deep.Strs
import Derived.ChangeOld
import Derived.Test.YtefippbcgdfnbaaQAx0
namespace Go.Proofs.Ytefippbcgdfnbaa.QA
open Go.RowKit Go.Proofs.YtefippbcgdfnbaaW.PrintWords
set_option linter.unusedVariables false
set_option linter.unusedSimpArgs false
/-! ### what an argument's data tell: a value that is read, and that it is small -/
structure Opn {α : Type} (P : Program) (d : Kd α) (t : TypeId) (ok : α → Prop) (wt : α → Nat) : Prop where
  sz : P.cellsOf t = d.sz
  op : ∀ {H : Type} {enc : TypeId × Value → H} {W : World} {base : Nat} {spare : Nat → Bool} {held : Bool} {n : Nat} {cs : List Value} {x : DataW H × List MemPlace},
    DataW.trod enc P W base spare held n t cs = some x → ∃ a : α, d.K W a cs ∧ ok a ∧ wt a ≤ Rows.uptoBulk x.1
theorem bulk_pos {H : Type} (d : DataW H) : 1 ≤ Rows.uptoBulk d := by
  cases d with
  | lit l => cases l <;> simp [Rows.uptoBulk]
  | nil => simp [Rows.uptoBulk]
  | ptr d => simp [Rows.uptoBulk]
  | slice elems spare => simp [Rows.uptoBulk]
  | agg parts => simp [Rows.uptoBulk]
  | iface t d => simp [Rows.uptoBulk]
  | map entries => simp [Rows.uptoBulk]
  | held h => simp [Rows.uptoBulk]
theorem bulk_append {H : Type} (l r : List (DataW H)) : Rows.uptoBulkAll (l ++ r) = Rows.uptoBulkAll l + Rows.uptoBulkAll r := by
  induction l with
  | nil => simp [Rows.uptoBulkAll]
  | cons x l ih => simp only [List.cons_append, Rows.uptoBulkAll, ih]; omega
theorem bulk_bound {H : Type} {l : List (DataW H)} (hk : Rows.uptoSmall H l = true) : Rows.uptoBulkAll l ≤ 1048576 := of_decide_eq_true hk
theorem Opn.int {P : Program} {k : IntKind} {t : TypeId} (ht : P.underlying t = some (.int k)) (hc : P.cellsOf t = 1) : Opn P (Kd.int k) t (fun n => (Lit.int k n).wf = true) (fun _ => 1) :=
  ⟨hc, fun {_ _ _ _ _ _ _ _ x} h => by
    obtain ⟨m, rfl, rfl, hw⟩ := DataW.trod_int ht h
    exact ⟨m, rfl, hw, bulk_pos _⟩⟩
theorem Opn.bool {P : Program} {t : TypeId} (ht : P.underlying t = some .bool) (hc : P.cellsOf t = 1) : Opn P Kd.bool t (fun _ => True) (fun _ => 1) :=
  ⟨hc, fun {_ _ _ _ _ _ _ _ x} h => by
    obtain ⟨m, rfl, rfl⟩ := DataW.trod_bool ht h
    exact ⟨m, rfl, trivial, bulk_pos _⟩⟩
theorem Opn.iso {α β : Type} {P : Program} {d : Kd α} {t : TypeId} {ok : α → Prop} {wt : α → Nat} (h : Opn P d t ok wt) (f : β → α) (g : α → β) (fg : ∀ a, f (g a) = a) : Opn P (Kd.iso d f) t (fun b => ok (f b)) (fun b => wt (f b)) :=
  ⟨h.sz, fun hx => by
    obtain ⟨a, h1, h2, h3⟩ := h.op hx
    exact ⟨g a, by show d.K _ (f (g a)) _; rw [fg]; exact h1, by show ok (f (g a)); rw [fg]; exact h2, by show wt (f (g a)) ≤ _; rw [fg]; exact h3⟩⟩
theorem Opn.slice {α : Type} {P : Program} {d : Kd α} {t e : TypeId} {ok : α → Prop} {wt : α → Nat} (ht : P.underlying t = some (.slice e)) (hc : P.cellsOf t = 1) (h : Opn P d e ok wt) :
    Opn P (Kd.slice e d) t (fun xs => xs.length ≤ maxLen ∧ ∀ x ∈ xs, ok x) (fun xs => (xs.map wt).sum + 1) :=
  ⟨hc, fun {H enc W base spare held n cs x} hx => by
    rcases DataW.trod_slice ht hx with ⟨rfl, rfl⟩ | ⟨a, len, cap, elems, rest, m, _, rfl, rfl, hb, hl, hm, hlen, hel, _, _⟩
    · exact ⟨[], ⟨none, 0, rfl, Nat.le_refl _, rfl, by simp, fun h => absurd h (by simp)⟩, ⟨by simp, by simp⟩, by simp [Rows.uptoBulk]⟩
    · have key : ∀ k, k ≤ len → ∃ xs : List α, xs.length = k ∧ (∀ j p, xs[j]? = some p → ok p ∧ ∃ c, c.length = d.sz ∧ d.K W p c ∧ ∀ i u, c[i]? = some u → W.cell? (a.add (j * d.sz + i)) = some u) ∧ (xs.map wt).sum ≤ Rows.uptoBulkAll ((elems.take k).map (·.1)) := by
        intro k
        induction k with
        | zero => intro _; exact ⟨[], rfl, fun j p h => by simp at h, by simp⟩
        | succ k ih =>
          intro hk
          obtain ⟨xs, h1, h2, h3⟩ := ih (by omega)
          have he : k < elems.length := by omega
          have hk' := hel k (by omega)
          rw [List.getElem?_eq_getElem he, Option.bind_eq_some_iff] at hk'
          obtain ⟨cs, hcs, ht'⟩ := hk'
          obtain ⟨p, hp1, hp2, hp3⟩ := h.op ht'
          obtain ⟨_, hcl, hcc⟩ := World.cells?_some hcs
          refine ⟨xs ++ [p], by simp [h1], fun j q hq => ?_, ?_⟩
          · rcases Nat.lt_or_ge j xs.length with hj | hj
            · rw [List.getElem?_append_left hj] at hq
              exact h2 j q hq
            · rw [List.getElem?_append_right hj] at hq
              have hj0 : j - xs.length = 0 := by
                rcases Nat.eq_zero_or_pos (j - xs.length) with h | h
                · exact h
                · rw [List.getElem?_eq_none (by simp; omega)] at hq; cases hq
              rw [hj0] at hq
              obtain rfl : p = q := by simpa using hq
              obtain rfl : j = k := by omega
              refine ⟨hp2, cs, by rw [hcl, h.sz], hp1, fun i u hu => ?_⟩
              have hi : i < P.cellsOf e := by rw [← hcl]; exact (List.getElem?_eq_some_iff.1 hu).1
              have := hcc i hi
              rw [hu, h.sz, Go.Addr.add_add] at this
              exact this
          · rw [List.take_succ_eq_append_getElem he]
            simp only [List.map_append, bulk_append, List.sum_append, List.map_cons, List.map_nil, List.sum_cons, List.sum_nil, Rows.uptoBulkAll]
            omega
      obtain ⟨xs, h1, h2, h3⟩ := key len (Nat.le_refl _)
      subst h1
      refine ⟨xs, ⟨some a, cap, rfl, hl, rfl, by unfold maxLen at hm; omega, fun _ => ⟨a, rfl, fun j p hp => (h2 j p hp).2⟩⟩, ⟨by omega, fun p hp => ?_⟩, ?_⟩
      · obtain ⟨j, hj⟩ := List.getElem?_of_mem hp
        exact (h2 j p hj).1
      · rw [List.take_of_length_le (by omega)] at h3
        simp only [Rows.uptoBulk]
        omega⟩
theorem Opn.struct3 {α β γ : Type} {P : Program} {a : Kd α} {b : Kd β} {c : Kd γ} {t : TypeId} {f0 f1 f2 : Field} {ok0 : α → Prop} {ok1 : β → Prop} {ok2 : γ → Prop} {w0 : α → Nat} {w1 : β → Nat} {w2 : γ → Nat}
    (ht : P.underlying t = some (.struct #[f0, f1, f2])) (hc : P.cellsOf t = a.sz + (b.sz + c.sz)) (o0 : f0.offset = 0) (o1 : f1.offset = a.sz) (o2 : f2.offset = a.sz + b.sz)
    (h0 : Opn P a f0.type ok0 w0) (h1 : Opn P b f1.type ok1 w1) (h2 : Opn P c f2.type ok2 w2) :
    Opn P (Kd.pair a (Kd.pair b c)) t (fun x => ok0 x.1 ∧ ok1 x.2.1 ∧ ok2 x.2.2) (fun x => w0 x.1 + w1 x.2.1 + w2 x.2.2 + 1) :=
  ⟨hc, fun {H enc W base spare held n cs x} hx => by
    obtain ⟨y0, y1, y2, m, rfl, hl, e0, e1, e2⟩ := Go.Deep.trod_struct3 ht hx
    obtain ⟨x0, k0, q0, b0⟩ := h0.op e0
    obtain ⟨x1, k1, q1, b1⟩ := h1.op e1
    obtain ⟨x2, k2, q2, b2⟩ := h2.op e2
    rw [h0.sz, o0] at k0
    rw [h1.sz, o1] at k1
    rw [h2.sz, o2] at k2
    refine ⟨(x0, x1, x2), ⟨_, _, ?_, k0, _, _, rfl, k1, k2⟩, ⟨q0, q1, q2⟩, ?_⟩
    · rw [List.drop_zero]
      rw [hc] at hl
      have e : (cs.drop (a.sz + b.sz)).take c.sz = cs.drop (a.sz + b.sz) := List.take_of_length_le (by rw [List.length_drop]; omega)
      rw [e, ← List.drop_drop, List.take_append_drop, List.take_append_drop]
    · simp only [Rows.uptoBulk, Rows.uptoBulkAll]
      omega⟩
theorem Opn.struct2 {α β : Type} {P : Program} {a : Kd α} {b : Kd β} {t : TypeId} {f0 f1 : Field} {ok0 : α → Prop} {ok1 : β → Prop} {w0 : α → Nat} {w1 : β → Nat}
    (ht : P.underlying t = some (.struct #[f0, f1])) (hc : P.cellsOf t = a.sz + b.sz) (o0 : f0.offset = 0) (o1 : f1.offset = a.sz)
    (h0 : Opn P a f0.type ok0 w0) (h1 : Opn P b f1.type ok1 w1) :
    Opn P (Kd.pair a b) t (fun x => ok0 x.1 ∧ ok1 x.2) (fun x => w0 x.1 + w1 x.2 + 1) :=
  ⟨hc, fun {H enc W base spare held n cs x} hx => by
    obtain ⟨y0, y1, m, rfl, hl, e0, e1⟩ := Go.ChangeShapes.trod_struct2 ht hx
    obtain ⟨x0, k0, q0, b0⟩ := h0.op e0
    obtain ⟨x1, k1, q1, b1⟩ := h1.op e1
    rw [h0.sz, o0] at k0
    rw [h1.sz, o1] at k1
    refine ⟨(x0, x1), ⟨_, _, ?_, k0, k1⟩, ⟨q0, q1⟩, ?_⟩
    · rw [List.drop_zero]
      rw [hc] at hl
      have e : (cs.drop a.sz).take b.sz = cs.drop a.sz := List.take_of_length_le (by rw [List.length_drop]; omega)
      rw [e, List.take_append_drop]
    · simp only [Rows.uptoBulk, Rows.uptoBulkAll]
      omega⟩
end Go.Proofs.Ytefippbcgdfnbaa.QA
