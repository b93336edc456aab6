/- What the model reads as data of a type, told as a value of the print's kinds: number, bool, string, slice, struct, array; at any nesting. -/
import Derived.Test.YtgaggoglbkcomaaWWords
import Derived.Test.YtgaggoglbkcomaaWArr
import Derived.OpenShut
import Derived.Deep.Slices
set_option linter.unusedVariables false
namespace Go.Proofs.Ytgaggoglbkcomaa.Open
open Go.RowKit Go.Deep Go.Proofs.YtgaggoglbkcomaaW.PrintWords

/-- Cells of type t that read as data are a value of kind d of which G holds. -/
structure Opens (P : Program) (t : TypeId) {α : Type} (d : Kd α) (G : α → Prop) : Prop where
  sz : P.cellsOf t = d.sz
  op : ∀ {H : Type} {enc : TypeId × Value → H} {w : World} {base : Nat} {spare : Nat → Bool} {held : Bool} {fuel : Nat} {cs : List Value} {x : DataW H × List MemPlace}, DataW.trod enc P w base spare held fuel t cs = some x → ∃ a, d.K w a cs ∧ G a

theorem Opens.mono {P : Program} {t : TypeId} {α : Type} {d : Kd α} {G G' : α → Prop} (h : Opens P t d G) (hg : ∀ a, G a → G' a) : Opens P t d G' :=
  ⟨h.sz, fun hx => by
    obtain ⟨a, h1, h2⟩ := h.op hx
    exact ⟨a, h1, hg a h2⟩⟩

theorem opens_int {P : Program} {t : TypeId} {k : IntKind} (hu : P.underlying t = some (.int k)) (hc : P.cellsOf t = 1) : Opens P t (Kd.int k) (fun n => (Lit.int k n).wf = true) :=
  ⟨hc, fun hx => by
    obtain ⟨n, rfl, _, hw⟩ := DataW.trod_int hu hx
    exact ⟨n, rfl, hw⟩⟩

theorem opens_bool {P : Program} {t : TypeId} (hu : P.underlying t = some .bool) (hc : P.cellsOf t = 1) : Opens P t Kd.bool (fun _ => True) :=
  ⟨hc, fun hx => by
    obtain ⟨n, rfl, _⟩ := DataW.trod_bool hu hx
    exact ⟨n, rfl, trivial⟩⟩

theorem opens_string {P : Program} {t : TypeId} (hu : P.underlying t = some .string) (hc : P.cellsOf t = 1) : Opens P t Kd.string (fun s => s.size ≤ maxLen) :=
  ⟨hc, fun hx => by
    obtain ⟨n, rfl, _, hs⟩ := DataW.trod_string hu hx
    exact ⟨n, rfl, hs⟩⟩

theorem opens_slice {P : Program} {t e : TypeId} {α : Type} {d : Kd α} {G : α → Prop} (hu : P.underlying t = some (.slice e)) (hc : P.cellsOf t = 1) (he : Opens P e d G) : Opens P t (Kd.slice e d) (fun xs => xs.length ≤ maxLen ∧ ∀ x ∈ xs, G x) :=
  ⟨hc, fun {H enc w base spare held fuel cs x} hx => by
    rcases open_slice hu hx with ⟨rfl, _⟩ | ⟨a, len, cap, m, n, D, Pl, rfl, hb, hl, hm, hmm, _, hel⟩
    · exact ⟨[], ⟨none, 0, rfl, Nat.le_refl _, rfl, by simp, fun h => absurd h (by simp)⟩, by simp, by simp⟩
    · have hml : len ≤ m := by rw [hmm]; split <;> omega
      have hall : ∀ i, i < len → ∃ a', G a' ∧ ∃ c, c.length = d.sz ∧ d.K w a' c ∧ ∀ j u, c[j]? = some u → w.cell? (a.add (i * d.sz + j)) = some u := by
        intro i hi
        obtain ⟨cs', h1, h2⟩ := hel i (by omega)
        obtain ⟨_, hlen, hcell⟩ := World.cells?_some h1
        obtain ⟨a', hK, hG⟩ := he.op h2
        refine ⟨a', hG, cs', by rw [hlen, he.sz], hK, fun j u hu' => ?_⟩
        have hj : j < P.cellsOf e := by rw [← hlen]; exact (List.getElem?_eq_some_iff.1 hu').1
        rw [← he.sz, ← Go.Deep.add_add, hcell j hj, hu']
      have hex : ∀ i, i < len → ∃ a', G a' ∧ ∃ c, c.length = d.sz ∧ d.K w a' c ∧ ∀ j u, c[j]? = some u → w.cell? (a.add (i * d.sz + j)) = some u := hall
      have hlist : ∀ k, k ≤ len → ∃ xs : List α, xs.length = k ∧ ∀ i x', xs[i]? = some x' → G x' ∧ ∃ c, c.length = d.sz ∧ d.K w x' c ∧ ∀ j u, c[j]? = some u → w.cell? (a.add (i * d.sz + j)) = some u := by
        intro k
        induction k with
        | zero => exact fun _ => ⟨[], rfl, fun i x' h => by simp at h⟩
        | succ k ih =>
          intro hk
          obtain ⟨xs, hl1, h1⟩ := ih (by omega)
          obtain ⟨a', hG, hc'⟩ := hex k (by omega)
          refine ⟨xs ++ [a'], by simp [hl1], fun i x' h => ?_⟩
          rcases Nat.lt_or_ge i xs.length with hi | hi
          · rw [List.getElem?_append_left hi] at h
            exact h1 i x' h
          · rw [List.getElem?_append_right hi] at h
            have hi2 : i = k := by
              have := (List.getElem?_eq_some_iff.1 h).1
              simp at this
              omega
            subst hi2
            rw [hl1] at h
            simp at h
            subst h
            exact ⟨hG, hc'⟩
      obtain ⟨xs, hxl, hxs⟩ := hlist len (Nat.le_refl _)
      have hmax : len ≤ maxLen := by omega
      refine ⟨xs, ⟨some a, cap, by rw [hxl], by omega, rfl, ?_, fun _ => ⟨a, rfl, fun j p hj => (hxs j p hj).2⟩⟩, by omega, fun x' hx' => ?_⟩
      · rw [hxl]
        unfold maxLen at hmax
        omega
      · obtain ⟨i, hi⟩ := List.mem_iff_getElem?.1 hx'
        exact (hxs i x' hi).1⟩

/-- Fields from a place on. -/
structure OpensAt (P : Program) (off : Nat) (fs : List Field) {α : Type} (d : Kd α) (G : α → Prop) : Prop where
  op : ∀ {H : Type} {enc : TypeId × Value → H} {w : World} {base : Nat} {spare : Nat → Bool} {held : Bool} {fuel : Nat} {cs : List Value}, (∀ f ∈ fs, ∃ x, DataW.trod enc P w base spare held fuel f.type ((cs.drop f.offset).take (P.cellsOf f.type)) = some x) → off + d.sz ≤ cs.length → ∃ a, d.K w a ((cs.drop off).take d.sz) ∧ G a

theorem opensAt_last {P : Program} {off : Nat} {f : Field} {α : Type} {d : Kd α} {G : α → Prop} (ho : f.offset = off) (h : Opens P f.type d G) : OpensAt P off [f] d G :=
  ⟨fun hf _ => by
    subst ho
    obtain ⟨x, hx⟩ := hf f (by simp)
    rw [h.sz] at hx
    exact h.op hx⟩

theorem opensAt_cons {P : Program} {off off' : Nat} {f : Field} {fs : List Field} {α β : Type} {d : Kd α} {d' : Kd β} {G : α → Prop} {G' : β → Prop} (ho : f.offset = off) (ho' : off + d.sz = off') (h : Opens P f.type d G) (hs : OpensAt P off' fs d' G') : OpensAt P off (f :: fs) (Kd.pair d d') (fun x => G x.1 ∧ G' x.2) :=
  ⟨fun {H enc w base spare held fuel cs} hf hl => by
    subst ho
    subst ho'
    obtain ⟨x, hx⟩ := hf f (by simp)
    rw [h.sz] at hx
    obtain ⟨a, hK, hG⟩ := h.op hx
    have hl' : f.offset + (d.sz + d'.sz) ≤ cs.length := hl
    obtain ⟨b, hK', hG'⟩ := hs.op (fun g hg => hf g (by simp [hg])) (show f.offset + d.sz + d'.sz ≤ cs.length by omega)
    refine ⟨(a, b), ⟨_, _, ?_, hK, hK'⟩, hG, hG'⟩
    show (cs.drop f.offset).take (d.sz + d'.sz) = _
    rw [← List.drop_drop, ← List.take_add]⟩

theorem opens_struct {P : Program} {t : TypeId} {fs : Array Field} {α : Type} {d : Kd α} {G : α → Prop} (hu : P.underlying t = some (.struct fs)) (hc : P.cellsOf t = d.sz) (h : OpensAt P 0 fs.toList d G) : Opens P t d G :=
  ⟨hc, fun {H enc w base spare held fuel cs x} hx => by
    obtain ⟨xs, n, _, _, hl, hn, hf⟩ := DataW.trod_struct hu hx
    obtain ⟨a, hK, hG⟩ := h.op (enc := enc) (w := w) (base := base) (spare := spare) (held := held) (fuel := n) (cs := cs) (fun f hm => by
      obtain ⟨i, hi⟩ := List.mem_iff_getElem?.1 hm
      have hi' : fs[i]? = some f := by simpa using hi
      have hlt : i < xs.length := by rw [hn]; exact (Array.getElem?_eq_some_iff.1 hi').1
      exact ⟨xs[i], (hf i f hi').trans (List.getElem?_eq_getElem hlt)⟩) (by rw [hl, hc]; omega)
    refine ⟨a, ?_, hG⟩
    rw [List.drop_zero, List.take_of_length_le (by rw [hl, hc]; omega)] at hK
    exact hK⟩

/-- A small array, told as fields in line. -/
theorem opens_fields {P : Program} {t e n : Nat} {fs : List Field} {α : Type} {d : Kd α} {G : α → Prop} (hu : P.underlying t = some (.array n e)) (hc : P.cellsOf t = d.sz) (hf : ∀ f ∈ fs, f.type = e ∧ ∃ i, i < n ∧ f.offset = i * P.cellsOf e) (h : OpensAt P 0 fs d G) : Opens P t d G :=
  ⟨hc, fun {H enc w base spare held fuel cs x} hx => by
    obtain ⟨ys, m, _, _, hl, hn, hel⟩ := DataW.trod_array hu hx
    obtain ⟨a, hK, hG⟩ := h.op (enc := enc) (w := w) (base := base) (spare := spare) (held := held) (fuel := m) (cs := cs) (fun f hm => by
      obtain ⟨ht, i, hi, ho⟩ := hf f hm
      have h1 := hel i hi
      rw [List.getElem?_eq_getElem (by omega)] at h1
      rw [ht, ho]
      exact ⟨_, h1⟩) (by rw [hl, hc]; omega)
    refine ⟨a, ?_, hG⟩
    rw [List.drop_zero, List.take_of_length_le (by rw [hl, hc]; omega)] at hK
    exact hK⟩
def fld (t o : Nat) : Field := { name := "", type := t, offset := o, embedded := false, tag := "", pkgPath := "", byteOffset := 0 }

theorem opens_iso {P : Program} {t : TypeId} {α β : Type} {d : Kd α} {G : α → Prop} (f : β → α) (g : α → β) (hfg : ∀ a, f (g a) = a) (h : Opens P t d G) : Opens P t (Kd.iso d f) (fun b => G (f b)) :=
  ⟨h.sz, fun hx => by
    obtain ⟨a, hK, hG⟩ := h.op hx
    refine ⟨g a, ?_, by rw [hfg]; exact hG⟩
    show d.K _ (f (g a)) _
    rw [hfg]
    exact hK⟩

theorem opens_array {P : Program} {t e n : Nat} {α : Type} {d : Kd α} {G : α → Prop} (hs : 0 < d.sz) (hu : P.underlying t = some (.array n e)) (hc : P.cellsOf t = n * d.sz) (he : Opens P e d G) : Opens P t (Kd.arr n d hs) (fun xs => xs.length = n ∧ ∀ x ∈ xs, G x) :=
  ⟨hc, fun {H enc w base spare held fuel cs x} hx => by
    obtain ⟨ys, m, _, _, hl, hn, hf⟩ := DataW.trod_array hu hx
    have hex : ∀ i, i < n → ∃ a', d.K w a' ((cs.drop (i * d.sz)).take d.sz) ∧ G a' := by
      intro i hi
      have h1 := hf i hi
      rw [List.getElem?_eq_getElem (by omega), he.sz] at h1
      exact he.op h1
    have hlist : ∀ k, k ≤ n → ∃ xs : List α, xs.length = k ∧ ∀ i x', xs[i]? = some x' → d.K w x' ((cs.drop (i * d.sz)).take d.sz) ∧ G x' := by
      intro k
      induction k with
      | zero => exact fun _ => ⟨[], rfl, fun i x' h => by simp at h⟩
      | succ k ih =>
        intro hk
        obtain ⟨xs, hl1, h1⟩ := ih (by omega)
        obtain ⟨a', hc'⟩ := hex k (by omega)
        refine ⟨xs ++ [a'], by simp [hl1], fun i x' h => ?_⟩
        rcases Nat.lt_or_ge i xs.length with hi | hi
        · rw [List.getElem?_append_left hi] at h
          exact h1 i x' h
        · rw [List.getElem?_append_right hi] at h
          have hi2 : i = k := by
            have := (List.getElem?_eq_some_iff.1 h).1
            simp at this
            omega
          subst hi2
          rw [hl1] at h
          simp at h
          subst h
          exact hc'
    obtain ⟨xs, hxl, hxs⟩ := hlist n (Nat.le_refl _)
    refine ⟨xs, ⟨hxl, by rw [hl, hc, hxl], fun j p hj => (hxs j p hj).1⟩, hxl, fun x' hx' => ?_⟩
    obtain ⟨i, hi⟩ := List.mem_iff_getElem?.1 hx'
    exact (hxs i x' hi).2⟩

theorem okWide_array {P : Program} {w : World} {r : Reach} {base : Nat} {t e n : Nat} {v : Value} (ht : P.underlying t = some (.array n e)) (h : Value.okWide P w r base t v) : ∃ cs, v = .agg cs ∧ cs.size = P.cellsOf t := by
  simp only [Value.okWide, ht] at h
  obtain ⟨cs, h1, h2, _⟩ := h
  exact ⟨cs, h1, h2⟩

end Go.Proofs.Ytgaggoglbkcomaa.Open
