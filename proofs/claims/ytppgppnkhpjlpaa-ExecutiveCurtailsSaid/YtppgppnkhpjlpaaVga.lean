/-
  THE FRAMES AND THE RULES OF MY OWN WALK: a frame is a function of slots; a post has three ways out (onward, a block's exit, return); panics and the rest are never let. Nothing of a program stands here.
-/
import Derived.WalkKit
import Derived.ProofKit
import Derived.OrdersHeld
namespace Go.Vg
open Go.RowKit

/-- The frame of an act: n slots, slot i holds f i, nothing deferred. -/
def Fm (n : Nat) (f : Nat → Value) (a : Act) : Prop := a.defers = [] ∧ a.tmps.size = n ∧ ∀ i, a.tmps.getD i undef = f i

/-- Slot d now holds v. -/
def st (f : Nat → Value) (d : Nat) (v : Value) : Nat → Value := fun i => match Nat.beq i d with
  | true => v
  | false => f i

theorem beq_no {i d : Nat} (h : i ≠ d) : Nat.beq i d = false := by
  cases e : Nat.beq i d with
  | false => rfl
  | true => exact absurd (Nat.eq_of_beq_eq_true e) h

def ev (f : Nat → Value) : Operand → Value
  | .tmp t => f t
  | .const v => v
  | .global g => .pointer (some ⟨g, 0, none⟩)
  | .func k => .func (.func k) #[] #[]

theorem Fm.eval {n : Nat} {f : Nat → Value} {a : Act} (h : Fm n f a) : a.eval = ev f := by
  funext x
  cases x with
  | tmp t => exact h.2.2 t
  | const v => rfl
  | global g => rfl
  | func k => rfl

theorem st_same (f : Nat → Value) (d : Nat) (v : Value) : st f d v d = v := by simp [st]
theorem st_other (f : Nat → Value) (d i : Nat) (v : Value) (h : i ≠ d) : st f d v i = f i := by
  have : Nat.beq i d = false := beq_no h
  simp [st, this]

theorem Fm.put {n : Nat} {f : Nat → Value} {a : Act} (h : Fm n f a) {d : Nat} (hd : d < n) (v : Value) : Fm n (st f d v) (a.put (some d) v) := by
  refine ⟨h.1, by simp [Act.put, h.2.1], fun i => ?_⟩
  by_cases hi : i = d
  · subst hi
    rw [st_same]
    simp [Act.put, h.2.1, hd]
  · rw [st_other _ _ _ _ hi, ← h.2.2 i]
    simp [Act.put, Array.getElem?_setIfInBounds_ne (Ne.symm hi)]

theorem Fm.put_none {n : Nat} {f : Nat → Value} {a : Act} (h : Fm n f a) (v : Value) : Fm n f (a.put none v) := h

/-- Where a piece of code may go on: behind it, out of a block, back to the caller. -/
structure Po where
  nrm : (Nat → Value) → World → Prop
  ext : Nat → (Nat → Value) → World → Prop
  ret : (Nat → Value) → World → Prop

def up (n : Nat) (Q : Po) : Exit → Act → World → Prop
  | .normal, a, w => ∃ f, Fm n f a ∧ Q.nrm f w
  | .exit i, a, w => ∃ f, Fm n f a ∧ Q.ext i f w
  | .ret, a, w => ∃ f, Fm n f a ∧ Q.ret f w
  | _, _, _ => False

def WP (P : Program) (n : Nat) (c : Code) (Q : Po) (f : Nat → Value) (w : World) : Prop := ∀ a, Fm n f a → c.wp P (up n Q) a w

section rules
variable {P : Program} {n : Nat} {Q : Po} {f : Nat → Value} {w : World}

theorem wskip (h : Q.nrm f w) : WP P n .skip Q f w := fun a ha => wp_skip ⟨f, ha, h⟩
theorem wexit {i : Nat} (h : Q.ext i f w) : WP P n (.exit i) Q f w := fun a ha => wp_exit ⟨f, ha, h⟩
theorem wret (h : Q.ret f w) : WP P n .ret Q f w := fun a ha => wp_ret ⟨f, ha, h⟩

theorem wmono {c : Code} {Q' : Po} (h : WP P n c Q f w) (h1 : ∀ f w, Q.nrm f w → Q'.nrm f w) (h2 : ∀ i f w, Q.ext i f w → Q'.ext i f w) (h3 : ∀ f w, Q.ret f w → Q'.ret f w) : WP P n c Q' f w :=
  fun a ha => wp_mono (h a ha) fun e a w hq => by
    cases e with
    | normal => obtain ⟨f, hf, hh⟩ := hq; exact ⟨f, hf, h1 f w hh⟩
    | exit i => obtain ⟨f, hf, hh⟩ := hq; exact ⟨f, hf, h2 i f w hh⟩
    | ret => obtain ⟨f, hf, hh⟩ := hq; exact ⟨f, hf, h3 f w hh⟩
    | goto l => exact hq
    | panic c => exact hq
    | outgrown => exact hq

theorem wseq {x y : Code} (h : WP P n x ⟨fun f w => WP P n y Q f w, Q.ext, Q.ret⟩ f w) : WP P n (.seq x y) Q f w := fun a ha =>
  wp_seq (wp_mono (h a ha) fun e a w hq => by
    cases e with
    | normal => obtain ⟨f, hf, hh⟩ := hq; exact hh a hf
    | exit i => exact hq
    | ret => exact hq
    | goto l => exact hq
    | panic c => exact hq
    | outgrown => exact hq)

/-- A cut: what holds between two pieces is said once. -/
theorem wcut {x y : Code} (M : (Nat → Value) → World → Prop) (h : WP P n x ⟨M, Q.ext, Q.ret⟩ f w) (h2 : ∀ f w, M f w → WP P n y Q f w) : WP P n (.seq x y) Q f w :=
  wseq (wmono h h2 (fun _ _ _ h => h) (fun _ _ h => h))

theorem wcond {c : Operand} {x y : Code} {b : Bool} (hc : ev f c = .bool b) (ht : b = true → WP P n x Q f w) (he : b = false → WP P n y Q f w) : WP P n (.cond c x y) Q f w := fun a ha =>
  wp_cond_split (t := b) (by rw [ha.eval]; exact hc) (fun h => ht h a ha) (fun h => he h a ha)
theorem wcond_t {c : Operand} {x y : Code} (hc : ev f c = .bool true) (ht : WP P n x Q f w) : WP P n (.cond c x y) Q f w := wcond hc (fun _ => ht) (fun h => by cases h)
theorem wcond_f {c : Operand} {x y : Code} (hc : ev f c = .bool false) (he : WP P n y Q f w) : WP P n (.cond c x y) Q f w := wcond hc (fun h => by cases h) (fun _ => he)

theorem wblock {id : Nat} {c : Code} (h : WP P n c ⟨Q.nrm, fun j f w => match Nat.beq j id with | true => Q.nrm f w | false => Q.ext j f w, Q.ret⟩ f w) : WP P n (.block id c) Q f w := fun a ha =>
  wp_block (wp_mono (h a ha) fun e a w hq => by
    cases e with
    | normal => exact hq
    | exit i =>
      obtain ⟨f, hf, hh⟩ := hq
      show if i = id then _ else _
      by_cases hi : i = id
      · have hb : Nat.beq i id = true := by simpa using hi
        simp only [hb] at hh
        rw [if_pos hi]
        exact ⟨f, hf, hh⟩
      · have hb : Nat.beq i id = false := beq_no hi
        simp only [hb] at hh
        rw [if_neg hi]
        exact ⟨f, hf, hh⟩
    | ret => exact hq
    | goto l => exact hq
    | panic c => exact hq
    | outgrown => exact hq)

/-- A loop: σ is what a round hands to the next. -/
theorem wloop {σ : Type} {c : Code} (I : σ → (Nat → Value) → World → Prop) (μ : σ → Nat) (s0 : σ) (h0 : I s0 f w)
    (hr : ∀ s f w, I s f w → WP P n c ⟨fun f' w' => ∃ s', I s' f' w' ∧ μ s' < μ s, Q.ext, Q.ret⟩ f w) : WP P n (.loop c) Q f w := by
  intro a ha b kk cs
  have key : ∀ k s f w a, μ s = k → I s f w → Fm n f a →
      ∃ e a' w', up n Q e a' w' ∧ Arrives P (lone (b.at a (.code c :: .inLoop c :: kk)) cs w) b kk cs e a' w' := by
    intro k
    induction k using Nat.strongRecOn with
    | _ k ih =>
      intro s f w a hk hI ha
      obtain ⟨e, a1, w1, hq, harr⟩ := hr s f w hI a ha b (.inLoop c :: kk) cs
      cases e with
      | normal =>
        obtain ⟨f1, hf1, s1, hI1, hlt⟩ := hq
        obtain ⟨e2, a2, w2, hq2, harr2⟩ := ih (μ s1) (hk ▸ hlt) s1 f1 w1 a1 rfl hI1 hf1
        exact ⟨e2, a2, w2, hq2, .of_steps (Steps.trans harr (.one step_inLoop)) harr2⟩
      | exit i => exact ⟨.exit i, a1, w1, hq, .pass (x := .inLoop c) rfl (fun _ _ => .inl (by simp)) harr⟩
      | ret => exact ⟨.ret, a1, w1, hq, .pass (x := .inLoop c) rfl (fun _ _ => .inl (by simp)) harr⟩
      | goto l => exact hq.elim
      | panic ch => exact hq.elim
      | outgrown => exact hq.elim
  obtain ⟨e, a', w', hq, harr⟩ := key _ s0 f w a rfl h0 ha
  exact ⟨e, a', w', hq, .of_steps (.one step_loop) harr⟩
end rules
end Go.Vg
