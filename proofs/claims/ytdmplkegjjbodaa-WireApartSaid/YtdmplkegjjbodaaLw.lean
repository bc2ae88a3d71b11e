/- Plain laws: the bytes of a number, an instruction, an end, a block, a function tell what they were made of. -/
import Derived.Test.YtdmplkegjjbodaaAw8
namespace Go.Proofs.Ytdmplkegjjbodaa
set_option linter.unusedSimpArgs false
set_option linter.unusedVariables false
open Go.RowKit Go.Proofs.YtdmplkegjjbodaaW.PrintWords

theorem leb_inj : ∀ (n m : Nat) (r s : List Int), leb n ++ r = leb m ++ s → n = m ∧ r = s := by
  intro n
  induction n using Nat.strongRecOn with
  | _ n ih =>
    intro m r s h
    by_cases hn : n < 128
    · by_cases hm : m < 128
      · rw [leb_small hn, leb_small hm] at h
        simp only [List.cons_append, List.nil_append, List.cons.injEq] at h
        exact ⟨by omega, h.2⟩
      · rw [leb_small hn, leb_big hm] at h
        simp only [List.cons_append, List.nil_append, List.cons.injEq] at h
        omega
    · by_cases hm : m < 128
      · rw [leb_big hn, leb_small hm] at h
        simp only [List.cons_append, List.nil_append, List.cons.injEq] at h
        omega
      · rw [leb_big hn, leb_big hm] at h
        simp only [List.cons_append, List.cons.injEq] at h
        obtain ⟨h1, h2⟩ := ih (n / 128) (by omega) (m / 128) r s h.2
        exact ⟨by omega, h2⟩
def smallN (x : Int) : Prop := 0 ≤ x ∧ x < 9223372036854775808
theorem nms_cons (x : Int) (l : List Int) : nms (x :: l) = nm x ++ nms l := by simp [nms]
theorem nms_nil : nms [] = [] := rfl
theorem nm_inj {x y : Int} {r s : List Int} (hx : smallN x) (hy : smallN y) (h : nm x ++ r = nm y ++ s) : x = y ∧ r = s := by
  obtain ⟨h1, h2⟩ := leb_inj _ _ _ _ h
  unfold smallN at *
  exact ⟨by omega, h2⟩
theorem zig_inj {x y : Int} (h : zigN x = zigN y) : x = y := by
  unfold zigN at h
  split at h <;> split at h <;> omega
theorem nms_inj : ∀ (l l' : List Int) (r s : List Int), l.length = l'.length → (∀ x ∈ l, smallN x) → (∀ x ∈ l', smallN x) → nms l ++ r = nms l' ++ s → l = l' ∧ r = s
  | [], [], r, s, _, _, _, h => ⟨rfl, h⟩
  | [], _ :: _, _, _, hl, _, _, _ => by simp at hl
  | _ :: _, [], _, _, hl, _, _, _ => by simp at hl
  | x :: l, y :: l', r, s, hl, h1, h2, h => by
    rw [nms_cons, nms_cons, List.append_assoc, List.append_assoc] at h
    obtain ⟨e1, e2⟩ := nm_inj (h1 x (by simp)) (h2 y (by simp)) h
    obtain ⟨e3, e4⟩ := nms_inj l l' r s (by simpa using hl) (fun z hz => h1 z (by simp [hz])) (fun z hz => h2 z (by simp [hz])) e2
    exact ⟨by rw [e1, e3], e4⟩

/-- an instruction that has nothing but what its kind uses, of numbers that are none below nought -/
def okI (i : Ins) : Prop :=
  (1 ≤ i.kind ∧ i.kind ≤ 6) ∧ smallN i.op ∧ smallN i.d ∧ smallN i.a ∧ smallN i.b ∧ (∀ x ∈ i.args, smallN x) ∧ i.args.length ≤ 1000000 ∧
  (i.kind ≠ 3 → i.op = 0) ∧ (i.kind = 5 → i.d = 0) ∧ (i.kind = 1 ∨ i.kind = 6 → i.a = 0) ∧ (i.kind ≠ 3 → i.kind ≠ 5 → i.b = 0) ∧ (i.kind ≠ 1 → i.kind ≠ 6 → i.n = 0) ∧ (i.kind ≠ 6 → i.args = [])

theorem insC_inj {i j : Ins} {r s : List Int} (hi : okI i) (hj : okI j) (h : insC i ++ r = insC j ++ s) : i = j ∧ r = s := by
  obtain ⟨k, op, d, a, b, n, args⟩ := i
  obtain ⟨k', op', d', a', b', n', args'⟩ := j
  obtain ⟨hk, ho, hd, ha, hb, hA, hAl, p1, p2, p3, p4, p5, p6⟩ := hi
  obtain ⟨hk', ho', hd', ha', hb', hA', hAl', q1, q2, q3, q4, q5, q6⟩ := hj
  simp only [insC, nms_cons, nms_nil, List.append_nil, List.append_assoc] at *
  have h2 := nm_inj ⟨by omega, by omega⟩ ⟨by omega, by omega⟩ h; clear h; obtain ⟨rfl, h⟩ := h2
  unfold insB at h
  simp only at h
  by_cases e1 : k = 1
  · subst e1
    simp only [if_true, nms_cons, nms_nil, List.append_nil, List.append_assoc] at h
    have h2 := nm_inj hd hd' h; clear h; obtain ⟨rfl, h⟩ := h2
    have h2 := leb_inj _ _ _ _ h; clear h; obtain ⟨e, h⟩ := h2
    have e' := zig_inj e; clear e; subst e'
    simp at p1 q1 p3 q3 p4 q4 p6 q6
    subst p1 q1 p3 q3 p4 q4 p6 q6
    exact ⟨rfl, h⟩
  by_cases e2 : k = 2 ∨ k = 4 ∨ k = 7 ∨ k = 8
  · simp only [if_neg e1, if_pos e2, nms_cons, nms_nil, List.append_nil, List.append_assoc] at h
    have h2 := nm_inj hd hd' h; clear h; obtain ⟨rfl, h⟩ := h2
    have h2 := nm_inj ha ha' h; clear h; obtain ⟨rfl, h⟩ := h2
    have := p1 (by omega)
    have := q1 (by omega)
    have := p4 (by omega) (by omega)
    have := q4 (by omega) (by omega)
    have := p5 (by omega) (by omega)
    have := q5 (by omega) (by omega)
    have := p6 (by omega)
    have := q6 (by omega)
    subst_vars
    exact ⟨rfl, rfl⟩
  by_cases e3 : k = 3
  · subst e3
    simp only [if_neg e1, if_neg e2, if_true, nms_cons, nms_nil, List.append_nil, List.append_assoc] at h
    have h2 := nm_inj ho ho' h; clear h; obtain ⟨rfl, h⟩ := h2
    have h2 := nm_inj hd hd' h; clear h; obtain ⟨rfl, h⟩ := h2
    have h2 := nm_inj ha ha' h; clear h; obtain ⟨rfl, h⟩ := h2
    have h2 := nm_inj hb hb' h; clear h; obtain ⟨rfl, h⟩ := h2
    have := p5 (by omega) (by omega)
    have := q5 (by omega) (by omega)
    have := p6 (by omega)
    have := q6 (by omega)
    subst_vars
    exact ⟨rfl, rfl⟩
  by_cases e5 : k = 5
  · subst e5
    simp only [if_neg e1, if_neg e2, if_neg e3, if_true, nms_cons, nms_nil, List.append_nil, List.append_assoc] at h
    have h2 := nm_inj ha ha' h; clear h; obtain ⟨rfl, h⟩ := h2
    have h2 := nm_inj hb hb' h; clear h; obtain ⟨rfl, h⟩ := h2
    have := p1 (by omega)
    have := q1 (by omega)
    have := p2 (by omega)
    have := q2 (by omega)
    have := p5 (by omega) (by omega)
    have := q5 (by omega) (by omega)
    have := p6 (by omega)
    have := q6 (by omega)
    subst_vars
    exact ⟨rfl, rfl⟩
  · have e6 : k = 6 := by omega
    subst e6
    simp only [if_neg e1, if_neg e2, if_neg e3, if_neg e5, if_true, nms_cons, nms_nil, List.append_nil, List.append_assoc] at h
    have h2 := nm_inj hd hd' h; clear h; obtain ⟨rfl, h⟩ := h2
    have h2 := leb_inj _ _ _ _ h; clear h; obtain ⟨e, h⟩ := h2
    have e' := zig_inj e; clear e; subst e'
    have h2 := nm_inj ⟨by omega, by omega⟩ ⟨by omega, by omega⟩ h; clear h; obtain ⟨e, h⟩ := h2
    have h2 := nms_inj _ _ _ _ (by omega) hA hA' h; clear h; obtain ⟨rfl, h⟩ := h2
    have := p1 (by omega)
    have := q1 (by omega)
    have := p3 (by omega)
    have := q3 (by omega)
    have := p4 (by omega) (by omega)
    have := q4 (by omega) (by omega)
    subst_vars
    exact ⟨rfl, rfl⟩
theorem flat_inj {α : Type} (f : α → List Int) (ok : α → Prop) (hf : ∀ i j r s, ok i → ok j → f i ++ r = f j ++ s → i = j ∧ r = s) :
    ∀ (l l' : List α) (r s : List Int), l.length = l'.length → (∀ x ∈ l, ok x) → (∀ x ∈ l', ok x) → l.flatMap f ++ r = l'.flatMap f ++ s → l = l' ∧ r = s
  | [], [], r, s, _, _, _, h => ⟨rfl, h⟩
  | [], _ :: _, _, _, hl, _, _, _ => by simp at hl
  | _ :: _, [], _, _, hl, _, _, _ => by simp at hl
  | x :: l, y :: l', r, s, hl, h1, h2, h => by
    rw [List.flatMap_cons, List.flatMap_cons, List.append_assoc, List.append_assoc] at h
    obtain ⟨e1, e2⟩ := hf _ _ _ _ (h1 x (by simp)) (h2 y (by simp)) h
    obtain ⟨e3, e4⟩ := flat_inj f ok hf l l' r s (by simpa using hl) (fun z hz => h1 z (by simp [hz])) (fun z hz => h2 z (by simp [hz])) e2
    exact ⟨by rw [e1, e3], e4⟩
def okE (e : End) : Prop := (1 ≤ e.kind ∧ e.kind ≤ 3) ∧ smallN e.a ∧ smallN e.jt ∧ smallN e.je ∧ (e.kind = 1 → e.a = 0) ∧ (e.kind = 3 → e.jt = 0) ∧ (e.kind ≠ 2 → e.je = 0)
theorem end_inj {e f : End} {r s : List Int} (he : okE e) (hf : okE f) (h : nm e.kind ++ (endB e ++ r) = nm f.kind ++ (endB f ++ s)) : e = f ∧ r = s := by
  obtain ⟨k, a, t, l⟩ := e
  obtain ⟨k', a', t', l'⟩ := f
  obtain ⟨hk, ha, ht, hl, p1, p2, p3⟩ := he
  obtain ⟨hk', ha', ht', hl', q1, q2, q3⟩ := hf
  simp only [nms_cons, nms_nil, List.append_nil, List.append_assoc] at *
  have h2 := nm_inj ⟨by omega, by omega⟩ ⟨by omega, by omega⟩ h; clear h; obtain ⟨rfl, h⟩ := h2
  unfold endB at h
  simp only at h
  by_cases e1 : k = 1
  · simp only [if_pos e1, nms_cons, nms_nil, List.append_nil, List.append_assoc] at h
    have h2 := nm_inj ht ht' h; clear h; obtain ⟨rfl, h⟩ := h2
    have := p1 (by omega)
    have := q1 (by omega)
    have := p3 (by omega)
    have := q3 (by omega)
    subst_vars
    exact ⟨rfl, rfl⟩
  by_cases e2 : k = 2
  · simp only [if_neg e1, if_pos e2, nms_cons, nms_nil, List.append_nil, List.append_assoc] at h
    have h2 := nm_inj ha ha' h; clear h; obtain ⟨rfl, h⟩ := h2
    have h2 := nm_inj ht ht' h; clear h; obtain ⟨rfl, h⟩ := h2
    have h2 := nm_inj hl hl' h; clear h; obtain ⟨rfl, h⟩ := h2
    exact ⟨rfl, h⟩
  · simp only [if_neg e1, if_neg e2, nms_cons, nms_nil, List.append_nil, List.append_assoc] at h
    have h2 := nm_inj ha ha' h; clear h; obtain ⟨rfl, h⟩ := h2
    have := p2 (by omega)
    have := q2 (by omega)
    have := p3 (by omega)
    have := q3 (by omega)
    subst_vars
    exact ⟨rfl, rfl⟩
def okB (x : Block) : Prop := x.ins.length ≤ 1000000 ∧ (∀ i ∈ x.ins, okI i) ∧ okE x.e
theorem block_inj {x y : Block} {r s : List Int} (hx : okB x) (hy : okB y) (h : blockB x ++ r = blockB y ++ s) : x = y ∧ r = s := by
  obtain ⟨xi, xe⟩ := x
  obtain ⟨yi, ye⟩ := y
  obtain ⟨h1, h2, h3⟩ := hx
  obtain ⟨k1, k2, k3⟩ := hy
  simp only [blockB, List.append_assoc] at *
  simp only [nms_cons, nms_nil, List.append_nil] at h
  have h2 := nm_inj (x := (xi.length : Int)) (y := (yi.length : Int)) ⟨by omega, by omega⟩ ⟨by omega, by omega⟩ h; clear h; obtain ⟨e, h⟩ := h2
  have h2 := flat_inj insC okI (fun i j r s => insC_inj) _ _ _ _ (by omega) h2 k2 h; clear h; obtain ⟨rfl, h⟩ := h2
  have h2 := end_inj h3 k3 h; clear h; obtain ⟨rfl, h⟩ := h2
  exact ⟨rfl, h⟩
theorem func_inj {p v p' v' : Int} {bs bs' : List Block} (hp : smallN p) (hv : smallN v) (hp' : smallN p') (hv' : smallN v') (hb : ∀ x ∈ bs, okB x) (hb' : ∀ x ∈ bs', okB x) (hl : bs.length ≤ 1000000) (hl' : bs'.length ≤ 1000000)
    (h : funcB p v bs = funcB p' v' bs') : p = p' ∧ v = v' ∧ bs = bs' := by
  simp only [funcB, blksB, nms_cons, nms_nil, List.append_nil, List.append_assoc] at h
  have h2 := nm_inj hp hp' h; clear h; obtain ⟨e1, h⟩ := h2
  have h2 := nm_inj hv hv' h; clear h; obtain ⟨e2, h⟩ := h2
  have h2 := nm_inj ⟨by omega, by omega⟩ ⟨by omega, by omega⟩ h; clear h; obtain ⟨e, h⟩ := h2
  obtain ⟨e3, _⟩ := flat_inj blockB okB (fun i j r s => block_inj) bs bs' [] [] (by omega) hb hb' (by simpa using h)
  exact ⟨e1, e2, e3⟩
end Go.Proofs.Ytdmplkegjjbodaa
