/- VectorDense, second form: for arguments of bulk at most 1048576 the law returns true and the arguments read as before; no other condition. Part 1 of 8: Vga Vgb Vgc Vgd Vge Vgf Vgg Vgh Ty Vgi Wa Vgj Msort Mnat Vgk Ra. -/
import Derived.WalkKit
import Derived.ProofKit
import Derived.OrdersHeld
import Derived.WalkSpells
import Derived.Maps.AppendAt
import Derived.Test.YtelbjmhhbeijkaaGreatRows
import Derived.DataReads
set_option linter.unusedVariables false
set_option linter.unusedSimpArgs false
namespace Go.Vg
theorem _root_.Go.oM {p : Prop} (h : p := by omega) : p := h
theorem _root_.Go.dC {p : Prop} (h : p := by decide) : p := h
theorem _root_.Go.kR {p : Prop} (h : p := by kernel_rfl) : p := h
theorem _root_.Go.oS {p : Prop} (h : p := by first | omega | simp) : p := h
theorem _root_.Go.bL {a b : Nat} (h : Nat.ble a b = true := by rfl) : a ≤ b := Nat.le_of_ble_eq_true h
open Go.RowKit
def Fm (n : Nat) (f : Nat → Value) (a : Act) : Prop := a.defers = [] ∧ a.tmps.size = n ∧ ∀ i, a.tmps.getD i undef = f i
def st (f : Nat → Value) (d : Nat) (v : Value) : Nat → Value := fun i => match Nat.beq i d with
  | true => v
  | false => f i
theorem beq_no {i d : Nat} (h : i ≠ d) : Nat.beq i d = false := by
  cases e : Nat.beq i d with
  | false => rfl
  | true => exact absurd (Nat.eq_of_beq_eq_true e) h
def ev (f : Nat → Value) : Operand → Value
  | .tmp t => f t
  | .const v => v
  | .global g => .pointer (some ⟨g, 0, none⟩)
  | .func k => .func (.func k) #[] #[]
theorem Fm.eval {n : Nat} {f : Nat → Value} {a : Act} (h : Fm n f a) : a.eval = ev f := by
  funext x
  cases x with
  | tmp t => exact h.2.2 t
  | const v => rfl
  | global g => rfl
  | func k => rfl
theorem st_same (f : Nat → Value) (d : Nat) (v : Value) : st f d v d = v := by simp [st]
theorem st_other (f : Nat → Value) (d i : Nat) (v : Value) (h : i ≠ d) : st f d v i = f i := by
  have : Nat.beq i d = false := beq_no h
  simp [st, this]
theorem Fm.put {n : Nat} {f : Nat → Value} {a : Act} (h : Fm n f a) {d : Nat} (hd : d < n) (v : Value) : Fm n (st f d v) (a.put (some d) v) := by
  refine ⟨h.1, by simp [Act.put, h.2.1], fun i => ?_⟩
  by_cases hi : i = d
  · subst hi
    rw [st_same]
    simp [Act.put, h.2.1, hd]
  rw [st_other _ _ _ _ hi, ← h.2.2 i]
  simp [Act.put, Array.getElem?_setIfInBounds_ne (Ne.symm hi)]
structure Po where
  nrm : (Nat → Value) → World → Prop
  ext : Nat → (Nat → Value) → World → Prop
  ret : (Nat → Value) → World → Prop
def up (n : Nat) (Q : Po) : Exit → Act → World → Prop
  | .normal, a, w => ∃ f, Fm n f a ∧ Q.nrm f w
  | .exit i, a, w => ∃ f, Fm n f a ∧ Q.ext i f w
  | .ret, a, w => ∃ f, Fm n f a ∧ Q.ret f w
  | _, _, _ => False
def WP (P : Program) (n : Nat) (c : Code) (Q : Po) (f : Nat → Value) (w : World) : Prop := ∀ a, Fm n f a → c.wp P (up n Q) a w
section rules
variable {P : Program} {n : Nat} {Q : Po} {f : Nat → Value} {w : World}
theorem wskip (h : Q.nrm f w) : WP P n .skip Q f w := fun a ha => wp_skip ⟨f, ha, h⟩
theorem wexit {i : Nat} (h : Q.ext i f w) : WP P n (.exit i) Q f w := fun a ha => wp_exit ⟨f, ha, h⟩
theorem wret (h : Q.ret f w) : WP P n .ret Q f w := fun a ha => wp_ret ⟨f, ha, h⟩
theorem wmono {c : Code} {Q' : Po} (h : WP P n c Q f w) (h1 : ∀ f w, Q.nrm f w → Q'.nrm f w) (h2 : ∀ i f w, Q.ext i f w → Q'.ext i f w) (h3 : ∀ f w, Q.ret f w → Q'.ret f w) : WP P n c Q' f w :=
  fun a ha => wp_mono (h a ha) fun e a w hq => by
    cases e with
    | normal => obtain ⟨f, hf, hh⟩ := hq; exact ⟨f, hf, h1 f w hh⟩
    | exit i => obtain ⟨f, hf, hh⟩ := hq; exact ⟨f, hf, h2 i f w hh⟩
    | ret => obtain ⟨f, hf, hh⟩ := hq; exact ⟨f, hf, h3 f w hh⟩
    | goto l => exact hq
    | panic c => exact hq
    | outgrown => exact hq
theorem wseq {x y : Code} (h : WP P n x ⟨fun f w => WP P n y Q f w, Q.ext, Q.ret⟩ f w) : WP P n (.seq x y) Q f w := fun a ha =>
  wp_seq (wp_mono (h a ha) fun e a w hq => by
    cases e with
    | normal => obtain ⟨f, hf, hh⟩ := hq; exact hh a hf
    | exit i => exact hq
    | ret => exact hq
    | goto l => exact hq
    | panic c => exact hq
    | outgrown => exact hq)
theorem wcut {x y : Code} (M : (Nat → Value) → World → Prop) (h : WP P n x ⟨M, Q.ext, Q.ret⟩ f w) (h2 : ∀ f w, M f w → WP P n y Q f w) : WP P n (.seq x y) Q f w :=
  wseq (wmono h h2 (fun _ _ _ h => h) (fun _ _ h => h))
theorem wcond {c : Operand} {x y : Code} {b : Bool} (hc : ev f c = .bool b) (ht : b = true → WP P n x Q f w) (he : b = false → WP P n y Q f w) : WP P n (.cond c x y) Q f w := fun a ha =>
  wp_cond_split (t := b) (by rw [ha.eval]; exact hc) (fun h => ht h a ha) (fun h => he h a ha)
theorem wcond_t {c : Operand} {x y : Code} (hc : ev f c = .bool true) (ht : WP P n x Q f w) : WP P n (.cond c x y) Q f w := wcond hc (fun _ => ht) (fun h => by cases h)
theorem wcond_f {c : Operand} {x y : Code} (hc : ev f c = .bool false) (he : WP P n y Q f w) : WP P n (.cond c x y) Q f w := wcond hc (fun h => by cases h) (fun _ => he)
theorem wblock {id : Nat} {c : Code} (h : WP P n c ⟨Q.nrm, fun j f w => match Nat.beq j id with | true => Q.nrm f w | false => Q.ext j f w, Q.ret⟩ f w) : WP P n (.block id c) Q f w := fun a ha =>
  wp_block (wp_mono (h a ha) fun e a w hq => by
    cases e with
    | normal => exact hq
    | exit i =>
      obtain ⟨f, hf, hh⟩ := hq
      show if i = id then _ else _
      by_cases hi : i = id
      · have hb : Nat.beq i id = true := by simpa using hi
        simp only [hb] at hh
        rw [if_pos hi]
        exact ⟨f, hf, hh⟩
      have hb : Nat.beq i id = false := beq_no hi
      simp only [hb] at hh
      rw [if_neg hi]
      exact ⟨f, hf, hh⟩
    | ret => exact hq
    | goto l => exact hq
    | panic c => exact hq
    | outgrown => exact hq)
theorem wloop {σ : Type} {c : Code} (I : σ → (Nat → Value) → World → Prop) (μ : σ → Nat) (s0 : σ) (h0 : I s0 f w)
    (hr : ∀ s f w, I s f w → WP P n c ⟨fun f' w' => ∃ s', I s' f' w' ∧ μ s' < μ s, Q.ext, Q.ret⟩ f w) : WP P n (.loop c) Q f w := by
  intro a ha b kk cs
  have key : ∀ k s f w a, μ s = k → I s f w → Fm n f a →
      ∃ e a' w', up n Q e a' w' ∧ Arrives P (lone (b.at a (.code c :: .inLoop c :: kk)) cs w) b kk cs e a' w' := by
    intro k
    induction k using Nat.strongRecOn with
    | _ k ih =>
      intro s f w a hk hI ha
      obtain ⟨e, a1, w1, hq, harr⟩ := hr s f w hI a ha b (.inLoop c :: kk) cs
      cases e with
      | normal =>
        obtain ⟨f1, hf1, s1, hI1, hlt⟩ := hq
        obtain ⟨e2, a2, w2, hq2, harr2⟩ := ih (μ s1) (hk ▸ hlt) s1 f1 w1 a1 rfl hI1 hf1
        exact ⟨e2, a2, w2, hq2, .of_steps (Steps.trans harr (.one step_inLoop)) harr2⟩
      | exit i => exact ⟨.exit i, a1, w1, hq, .pass (x := .inLoop c) rfl (fun _ _ => .inl (by simp)) harr⟩
      | ret => exact ⟨.ret, a1, w1, hq, .pass (x := .inLoop c) rfl (fun _ _ => .inl (by simp)) harr⟩
      | goto l => exact hq.elim
      | panic ch => exact hq.elim
      | outgrown => exact hq.elim
  obtain ⟨e, a', w', hq, harr⟩ := key _ s0 f w a rfl h0 ha
  exact ⟨e, a', w', hq, .of_steps (.one step_loop) harr⟩
end rules
end Go.Vg
namespace Go.Vg
open Go.RowKit
section lists
variable {P : Program} {n : Nat} {Q : Po} {f : Nat → Value} {w w' : World} {ops : Array Oper} {o : Oper} {rest : List Oper} {d : Nat} {v : Value}
def RL (P : Program) (n : Nat) (ops : Array Oper) (l : List Oper) (Q : Po) (f : Nat → Value) (w : World) : Prop := ∀ a, Fm n f a → wpList P ops (up n Q) l a w
theorem wregion {id : Nat} {l : List Oper} (h : RL P n l.toArray l Q f w) : WP P n (.region id l.toArray false) Q f w := fun a ha => wp_region_lit (h a ha)
theorem RL.nil (h : Q.nrm f w) : RL P n ops [] Q f w := fun _ ha => wpList_nil ⟨f, ha, h⟩
theorem RL.val (hg : o.guard = none) (hd : o.dst = some d) (hn : d < n) (hr : (execOp (ev f) o).run P w = .ok (.value v) w') (h : RL P n ops rest Q (st f d v) w') : RL P n ops (o :: rest) Q f w := fun a ha =>
  wpList_plain hg fun K hK => by
    unfold Oper.wp
    rw [ha.eval, hr]
    exact hK _ _ (h _ (by rw [hd]; exact ha.put hn v))
theorem RL.skip (hg : o.guard = none) (hd : o.dst = none) (hr : (execOp (ev f) o).run P w = .ok .skip w') (h : RL P n ops rest Q f w') : RL P n ops (o :: rest) Q f w := fun a ha =>
  wpList_plain hg fun K hK => by
    unfold Oper.wp
    rw [ha.eval, hr]
    exact hK _ _ (h _ (by rw [hd]; exact ha))
theorem RL.call {k : FuncId} {args : Array Value} {Post : Value → World → Prop} (hg : o.guard = none) (hd : o.dst = some d) (hn : d < n) (hr : (execOp (ev f) o).run P w = .ok (.enter k args) w)
    (hc : Calls P k args w fun e w' => ∃ v, e = .returned v ∧ Post v w') (h : ∀ v w', Post v w' → RL P n ops rest Q (st f d v) w') : RL P n ops (o :: rest) Q f w := fun a ha =>
  wpList_plain hg fun K hK => by
    unfold Oper.wp
    rw [ha.eval, hr]
    refine hc.mono fun e w1 ⟨u, he, hp⟩ => ?_
    subst he
    exact hK _ _ (h u w1 hp _ (by rw [hd]; exact ha.put hn u))
theorem yielded_of {a : Act} (ha : Fm n f a) {j t : Nat} {b : Bool} (hj : (ops[j]?).bind (·.dst) = some t) (hf : f t = .bool b) : yielded ops a.tmps j = some b := by
  have h := ha.2.2 t
  rw [hf] at h
  unfold yielded
  rw [hj]
  rcases Nat.lt_or_ge t a.tmps.size with hl | hl
  · simp only [Option.bind_some]
    simp [Array.getD, hl] at h
    simp [hl, h]
  simp [Array.getD, Nat.not_lt.2 hl, undef] at h
theorem wanted_of {a : Act} (ha : Fm n f a) {j t : Nat} {b want : Bool} (hg : o.guard = some (j, want)) (hj : (ops[j]?).bind (·.dst) = some t) (hf : f t = .bool b) :
    Region.wanted o (yielded ops a.tmps) = (b == want) := by
  unfold Region.wanted
  simp only [hg, yielded_of ha hj hf]
  cases b <;> cases want <;> rfl
theorem RL.gval {j t : Nat} {want : Bool} (hg : o.guard = some (j, want)) (hj : (ops[j]?).bind (·.dst) = some t) (hf : f t = .bool want) (hd : o.dst = some d) (hn : d < n)
    (hr : (execOp (ev f) o).run P w = .ok (.value v) w') (h : RL P n ops rest Q (st f d v) w') : RL P n ops (o :: rest) Q f w := fun a ha =>
  wpList_step fun K hK => by
    have hw := wanted_of ha hg hj hf
    rw [hw]
    simp only [BEq.rfl, if_true]
    unfold Oper.wp
    rw [ha.eval, hr]
    exact hK _ _ (h _ (by rw [hd]; exact ha.put hn v))
theorem RL.gcall {j t : Nat} {want : Bool} {k : FuncId} {args : Array Value} {Post : Value → World → Prop} (hg : o.guard = some (j, want)) (hj : (ops[j]?).bind (·.dst) = some t) (hf : f t = .bool want) (hd : o.dst = some d) (hn : d < n)
    (hr : (execOp (ev f) o).run P w = .ok (.enter k args) w) (hc : Calls P k args w fun e w' => ∃ v, e = .returned v ∧ Post v w') (h : ∀ v w', Post v w' → RL P n ops rest Q (st f d v) w') : RL P n ops (o :: rest) Q f w := fun a ha =>
  wpList_step fun K hK => by
    have hw := wanted_of ha hg hj hf
    rw [hw]
    simp only [BEq.rfl, if_true]
    unfold Oper.wp
    rw [ha.eval, hr]
    refine hc.mono fun e w1 ⟨u, he, hp⟩ => ?_
    subst he
    exact hK _ _ (h u w1 hp _ (by rw [hd]; exact ha.put hn u))
theorem RL.gno {j t : Nat} {want : Bool} (hg : o.guard = some (j, want)) (hj : (ops[j]?).bind (·.dst) = some t) (hf : f t = .bool (!want)) (hd : o.dst = some d) (hn : d < n)
    (h : RL P n ops rest Q (st f d undef) w) : RL P n ops (o :: rest) Q f w := fun a ha =>
  wpList_step fun K hK => by
    have hw := wanted_of ha hg hj hf
    rw [hw]
    have : ((!want) == want) = false := by cases want <;> rfl
    rw [this]
    simp only [Bool.false_eq_true, if_false]
    exact hK _ _ (h _ (by rw [hd]; exact ha.put hn undef))
theorem RL.gun {j t : Nat} {want : Bool} (hg : o.guard = some (j, want)) (hj : (ops[j]?).bind (·.dst) = some t) (hf : f t = undef) (hd : o.dst = some d) (hn : d < n)
    (h : RL P n ops rest Q (st f d undef) w) : RL P n ops (o :: rest) Q f w := fun a ha =>
  wpList_step fun K hK => by
    have hy : yielded ops a.tmps j = none := by
      have h := ha.2.2 t
      rw [hf] at h
      unfold yielded
      rw [hj]
      simp only [Option.bind_some]
      rcases Nat.lt_or_ge t a.tmps.size with hl | hl
      · simp [Array.getD, hl] at h
        simp [hl, h, undef]
      simp [Array.getElem?_eq_none hl]
    have hw : Region.wanted o (yielded ops a.tmps) = false := by
      unfold Region.wanted
      simp only [hg, hy]
      rfl
    rw [hw]
    simp only [Bool.false_eq_true, if_false]
    exact hK _ _ (h _ (by rw [hd]; exact ha.put hn undef))
end lists
/-! ### whatever order -/
def isRd (o : Oper) : Bool := match o.op with
  | .load .. => true
  | _ => false
def calm (o : Oper) : Bool := match o.op with
  | .move _ | .assign _ | .pick .. | .load .. | .binOp .. | .unOp .. | .convert .. | .field .. | .fieldAddr .. | .indexAddr .. | .index .. | .slice .. | .extract .. | .build .. | .makeFunc .. | .nilCheck _ => true
  | .call { callee := .builtin .len, .. } | .call { callee := .builtin .cap, .. } | .call { callee := .builtin .min, .. } | .call { callee := .builtin .max, .. } => true
  | _ => false
def calmAt (ops : Array Oper) (j : Nat) : Bool := match ops[j]? with
  | some o => calm o
  | none => false
def rdAt (ops : Array Oper) (j : Nat) : Bool := match ops[j]? with
  | some o => isRd o
  | none => false
def depArr (ops : Array Oper) (i : Nat) : Array Bool := ops.foldl (fun acc o => acc.push (o.after.any fun e => Region.binds .any e && (e.on == i || acc.getD e.on false))) #[]
def depAt (ops : Array Oper) (i j : Nat) : Bool := (depArr ops i).getD j false
def depOk (ops : Array Oper) (listed : Array Bool) (i : Nat) : Bool :=
  let d := depArr ops i
  (List.range d.size).all fun k => !(d.getD k false) || (!(listed.getD k true) && match ops[k]? with
    | some o => o.after.any fun e => Region.binds .any e && (e.on == i || d.getD e.on false)
    | none => false)
def lastOp (ops : Array Oper) (j : Nat) : Bool :=
  (List.range ops.size).all fun i => i == j || !rdAt ops i || depAt ops i j
def Oks (ops : Array Oper) (S : World → Prop) (j : Nat) (w w' : World) : Prop := (calmAt ops j = true ∧ w' = w) ∨ lastOp ops j = true ∨ S w'
def wpAnyF (P : Program) (ops : Array Oper) (Q : Exit → Act → World → Prop) (S : World → Prop) : Nat → Array Bool → Act → World → Prop
  | 0, listed, a, w => Region.ready .any ops listed = [] ∧ Q .normal a w
  | fuel + 1, listed, a, w =>
    (Region.ready .any ops listed = [] → Q .normal a w) ∧
    ∀ i ∈ Region.ready .any ops listed, wpOp P ops Q i (fun a' w' => Oks ops S i w w' ∧ wpAnyF P ops Q S fuel (listed.setIfInBounds i true) a' w') a w
section any
variable {P : Program} {ops : Array Oper} {Q : Exit → Act → World → Prop} {S : World → Prop}
theorem wpAny_of_F : ∀ (fuel : Nat) (listed : Array Bool) (a : Act) (w : World), wpAnyF P ops Q S fuel listed a w → wpAny P .any ops Q fuel listed a w
  | 0, _, _, _, h => h
  | fuel + 1, _, _, _, h => ⟨h.1, fun i hi => wpOp_mono (fun a' w' h' => wpAny_of_F fuel _ a' w' h'.2) (h.2 i hi)⟩
theorem wpAnyF_more {S' : World → Prop} (hS : ∀ w, S' w → S w) : ∀ (fuel : Nat) (listed : Array Bool) (a : Act) (w : World), wpAnyF P ops Q S' fuel listed a w → wpAnyF P ops Q S fuel listed a w
  | 0, _, _, _, h => h
  | fuel + 1, _, _, _, h => ⟨h.1, fun i hi => wpOp_mono (fun a' w' h' => ⟨h'.1.imp id (Or.imp id (hS w')), wpAnyF_more hS fuel _ a' w' h'.2⟩) (h.2 i hi)⟩
theorem lastOp_waits {i j : Nat} (hl : lastOp ops j = true) (hij : i ≠ j) (hi : i < ops.size) (hr : rdAt ops i = true) : depAt ops i j = true := by
  unfold lastOp at hl
  simp only [List.all_eq_true, List.mem_range] at hl
  have h := hl i hi
  simpa only [hr, Bool.not_true, Bool.or_false, Bool.or_eq_true, beq_iff_eq, hij, false_or] using h
theorem depOk_spec {i k : Nat} {listed : Array Bool} (h : depOk ops listed i = true) (hk : depAt ops i k = true) :
    listed.getD k true = false ∧ ∃ o, ops[k]? = some o ∧ ∃ e ∈ o.after, Region.binds .any e = true ∧ (e.on = i ∨ depAt ops i e.on = true) := by
  unfold depOk at h
  simp only [List.all_eq_true, List.mem_range] at h
  have hlt : k < (depArr ops i).size := by
    unfold depAt at hk
    rcases Nat.lt_or_ge k (depArr ops i).size with h' | h'
    · exact h'
    simp [Array.getD, Nat.not_lt.2 h'] at hk
  have h1 := h k hlt
  unfold depAt at hk
  rw [hk] at h1
  simp only [Bool.not_true, Bool.false_or, Bool.and_eq_true, Bool.not_eq_true'] at h1
  refine ⟨h1.1, ?_⟩
  have h2 := h1.2
  split at h2
  · next o ho =>
    obtain ⟨e, he, hb⟩ := Array.any_eq_true'.1 h2
    simp only [Bool.and_eq_true, Bool.or_eq_true, beq_iff_eq] at hb
    exact ⟨o, ho, e, he, hb.1, hb.2⟩
  cases h2
theorem wpAnyF_first {i : Nat} {oi : Oper} {v : Value} {S0 : World → Prop} (hi : ops[i]? = some oi) (hc : calm oi = true) (hS0 : (∀ w, S0 w) ∨ (isRd oi = true ∧ ∀ w, S w → S0 w))
    (hcl : isRd oi = true → ∀ k, depAt ops i k = true → ∃ o, ops[k]? = some o ∧ ∃ e ∈ o.after, Region.binds .any e = true ∧ (e.on = i ∨ depAt ops i e.on = true))
    (hsel : ∀ (j : Nat) (o : Oper) cs b, ops[j]? = some o → o.op ≠ .select cs b) (hQ : ∀ c a w, Q (.panic c) (a.put oi.dst v) w → Q (.panic c) a w) :
    ∀ (fuel : Nat) (listed : Array Bool) (a : Act) (w : World),
      (∀ j oj, ops[j]? = some oj → j ≠ i → listed.getD j true = false → (∀ e ∈ oj.after, Region.binds .any e = true → e.on ≠ i) → oi.apart ops oj = true) →
      (isRd oi = true → ∀ k, depAt ops i k = true → listed.getD k true = false) →
      i ∈ Region.ready .any ops listed → YieldsIf P ops S0 oi v a → S0 w →
      wpAnyF P ops Q S fuel (listed.setIfInBounds i true) (a.put oi.dst v) w → wpAnyF P ops Q S (fuel + 1) listed a w := by
  have hci : calmAt ops i = true := by unfold calmAt; rw [hi]; exact hc
  intro fuel
  induction fuel with
  | zero =>
    intro listed a w _ _ hr hy hS H
    refine ⟨fun h => (by rw [h] at hr; cases hr), fun j hj => ?_⟩
    by_cases hji : j = i
    · subst hji; exact hy.wpOp hi hS ⟨.inl ⟨hci, rfl⟩, H⟩
    have := ready_mono hj hji
    rw [H.1] at this
    cases this
  | succ fuel ih =>
    intro listed a w hfree hun hr hy hS H
    refine ⟨fun h => (by rw [h] at hr; cases hr), fun j hj => ?_⟩
    by_cases hji : j = i
    · subst hji; exact hy.wpOp hi hS ⟨.inl ⟨hci, rfl⟩, H⟩
    have h1 := H.2 j (ready_mono hj hji)
    obtain ⟨hjun, oj, hoj, hall⟩ := mem_ready.1 hj
    have hnot : ∀ e ∈ oj.after, Region.binds .any e = true → e.on ≠ i := fun e he hb heq => by
      have h1 := hall e he hb
      have h0 := (mem_ready.1 hr).1
      rw [heq] at h1
      rcases Nat.lt_or_ge i listed.size with h' | h'
      · simp [h'] at h0 h1; rw [h0] at h1; cases h1
      simp [Array.getElem?_eq_none h'] at h1
    have hjd : isRd oi = true → depAt ops i j = false := fun hrd => by
      rcases Bool.eq_false_or_eq_true (depAt ops i j) with hd | hd
      · obtain ⟨o, ho, e, he, hb, hcase⟩ := hcl hrd j hd
        rw [hoj] at ho
        injection ho with ho
        subst ho
        rcases hcase with hc | hc
        · exact absurd hc (hnot e he hb)
        have h1 := hall e he hb
        have h0 := hun hrd e.on hc
        rcases Nat.lt_or_ge e.on listed.size with h' | h'
        · simp [h'] at h0 h1; rw [h0] at h1; cases h1
        simp [Array.getElem?_eq_none h'] at h1
      exact hd
    have hun' : isRd oi = true → ∀ k, depAt ops i k = true → (listed.setIfInBounds j true).getD k true = false := fun hrd k hk => by
      have hjk : j ≠ k := fun h => by subst h; rw [hjd hrd] at hk; cases hk
      rw [getD_set_ne true hjk]
      exact hun hrd k hk
    have h2 := wpOp_putIf hoj (hfree j oj hoj hji hjun hnot) (fun cs b => hsel i oi cs b hi) (fun cs b => hsel j oj cs b hoj) hQ hy h1
    have hfree' : ∀ k ok, ops[k]? = some ok → k ≠ i → (listed.setIfInBounds j true).getD k true = false →
        (∀ e ∈ ok.after, Region.binds .any e = true → e.on ≠ i) → oi.apart ops ok = true := fun k ok hk hki hun hno => by
      refine hfree k ok hk hki ?_ hno
      by_cases hjk : j = k
      · subst hjk; exact hjun
      rw [getD_set_ne true hjk] at hun; exact hun
    refine wpOp_mono (fun a' w' h3 => ?_) h2
    have hS' : S0 w' := by
      rcases hS0 with hS0 | ⟨hrd, hS0⟩
      · exact hS0 w'
      rcases h3.2.1 with ⟨_, he⟩ | hl | hs
      · rw [he]; exact hS
      · have hlt : i < ops.size := (Array.getElem?_eq_some_iff.1 hi).1
        have hd := lastOp_waits hl (Ne.symm hji) hlt (by unfold rdAt; rw [hi]; exact hrd)
        rw [hjd hrd] at hd
        cases hd
      exact hS0 w' hs
    refine ⟨h3.2.1, ih (listed.setIfInBounds j true) a' w' hfree' hun' (ready_mono hr (Ne.symm hji)) h3.1 hS' ?_⟩
    rw [Array.setIfInBounds_comm _ _ hji]
    exact h3.2.2
end any
def takeOk (ops : Array Oper) (listed : Array Bool) (i : Nat) : Bool :=
  Region.noSelect ops && Region.free .any ops listed i && (Region.ready .any ops listed).contains i && calmAt ops i && (!rdAt ops i || depOk ops listed i)
def RA (P : Program) (n : Nat) (ops : Array Oper) (Q : Po) (S : World → Prop) (fuel : Nat) (listed : Array Bool) (f : Nat → Value) (w : World) : Prop :=
  ∀ a, Fm n f a → wpAnyF P ops (up n Q) S fuel listed a w
section ra
variable {P : Program} {n : Nat} {Q : Po} {f : Nat → Value} {w w' : World} {ops : Array Oper} {o : Oper} {S : World → Prop} {fuel : Nat} {listed : Array Bool} {d : Nat} {v : Value}
theorem wdrawS {id : Nat} (S : World → Prop) (hm : P.follows .mixedOrders = true) (h : RA P n ops Q S ops.size (Array.replicate ops.size false) f w.drew) : WP P n (.region id ops true) Q f w := fun a ha =>
  wp_region_any hm (wpAny_of_F _ _ _ _ (h a ha))
theorem wdraw {id : Nat} (hm : P.follows .mixedOrders = true) (h : ∀ w1, Below w.heap.size w w1 → RA P n ops Q (fun u => Below w1.heap.size w1 u) ops.size (Array.replicate ops.size false) f w1) : WP P n (.region id ops true) Q f w :=
  wdrawS _ hm (h w.drew (Below.drew (Below.refl _ _)))
theorem RA.more {S' : World → Prop} (hS : ∀ w, S' w → S w) (h : RA P n ops Q S' fuel listed f w) : RA P n ops Q S fuel listed f w := fun a ha => wpAnyF_more hS _ _ _ _ (h a ha)
theorem RA.take0 {S0 : World → Prop} (i : Nat) (hi : ops[i]? = some o) (hok : takeOk ops listed i = true) (hS0 : (∀ w, S0 w) ∨ (isRd o = true ∧ ∀ w, S w → S0 w)) (hS : S0 w) (hd : o.dst = some d) (hn : d < n)
    (hy : ∀ a, Fm n f a → YieldsIf P ops S0 o v a) (h : RA P n ops Q S fuel (listed.setIfInBounds i true) (st f d v) w) : RA P n ops Q S (fuel + 1) listed f w := fun a ha => by
  unfold takeOk at hok
  simp only [Bool.and_eq_true] at hok
  obtain ⟨⟨⟨⟨h1, h2⟩, h3⟩, h4⟩, h5⟩ := hok
  have h6 : isRd o = true → depOk ops listed i = true := fun hrd => by
    have : rdAt ops i = true := by unfold rdAt; rw [hi]; exact hrd
    rw [this] at h5
    simpa using h5
  refine wpAnyF_first (i := i) (v := v) (S0 := S0) hi (by unfold calmAt at h4; rw [hi] at h4; exact h4) hS0 (fun hrd k hk => (depOk_spec (h6 hrd) hk).2) (Region.noSelect_spec h1) (fun _ _ _ h => h) fuel listed a w (Region.free_spec hi h2) (fun hrd k hk => (depOk_spec (h6 hrd) hk).1) (by simpa using h3) (hy a ha) hS ?_
  exact h _ (by rw [hd]; exact ha.put hn v)
theorem RA.take (i : Nat) (hi : ops[i]? = some o) (hok : takeOk ops listed i = true) (hg : o.guard = none) (hd : o.dst = some d) (hn : d < n)
    (hr : ∀ w, (execOp (ev f) o).run P w = .ok (.value v) w) (h : RA P n ops Q S fuel (listed.setIfInBounds i true) (st f d v) w) : RA P n ops Q S (fuel + 1) listed f w :=
  RA.take0 (S0 := fun _ => True) i hi hok (.inl fun _ => trivial) trivial hd hn (fun a ha => .inl ⟨by simp [Region.wanted, hg], fun w _ => by rw [ha.eval]; exact hr w⟩) h
theorem RA.rd (i : Nat) (hi : ops[i]? = some o) (hok : takeOk ops listed i = true) (hrd : isRd o = true) (hg : o.guard = none) (hd : o.dst = some d) (hn : d < n) (hS : S w)
    (hr : ∀ w, S w → (execOp (ev f) o).run P w = .ok (.value v) w) (h : RA P n ops Q S fuel (listed.setIfInBounds i true) (st f d v) w) : RA P n ops Q S (fuel + 1) listed f w :=
  RA.take0 (S0 := S) i hi hok (.inr ⟨hrd, fun _ h => h⟩) hS hd hn (fun a ha => .inl ⟨by simp [Region.wanted, hg], fun w hw => by rw [ha.eval]; exact hr w hw⟩) h
theorem RA.gtake (i : Nat) {j t : Nat} {want : Bool} (hi : ops[i]? = some o) (hok : takeOk ops listed i = true) (hg : o.guard = some (j, want)) (hj : (ops[j]?).bind (·.dst) = some t) (hf : f t = .bool want) (hd : o.dst = some d) (hn : d < n)
    (hr : ∀ w, (execOp (ev f) o).run P w = .ok (.value v) w) (h : RA P n ops Q S fuel (listed.setIfInBounds i true) (st f d v) w) : RA P n ops Q S (fuel + 1) listed f w :=
  RA.take0 (S0 := fun _ => True) i hi hok (.inl fun _ => trivial) trivial hd hn (fun a ha => .inl ⟨by rw [wanted_of ha hg hj hf]; simp, fun w _ => by rw [ha.eval]; exact hr w⟩) h
theorem RA.grd (i : Nat) {j t : Nat} {want : Bool} (hi : ops[i]? = some o) (hok : takeOk ops listed i = true) (hrd : isRd o = true) (hg : o.guard = some (j, want)) (hj : (ops[j]?).bind (·.dst) = some t) (hf : f t = .bool want) (hd : o.dst = some d) (hn : d < n) (hS : S w)
    (hr : ∀ w, S w → (execOp (ev f) o).run P w = .ok (.value v) w) (h : RA P n ops Q S fuel (listed.setIfInBounds i true) (st f d v) w) : RA P n ops Q S (fuel + 1) listed f w :=
  RA.take0 (S0 := S) i hi hok (.inr ⟨hrd, fun _ h => h⟩) hS hd hn (fun a ha => .inl ⟨by rw [wanted_of ha hg hj hf]; simp, fun w hw => by rw [ha.eval]; exact hr w hw⟩) h
theorem unwanted_of {a : Act} (ha : Fm n f a) {j t : Nat} {want : Bool} (hg : o.guard = some (j, want)) (hj : (ops[j]?).bind (·.dst) = some t) (hf : f t = .bool (!want) ∨ f t = undef) : Region.wanted o (yielded ops a.tmps) = false := by
  rcases hf with hf | hf
  · rw [wanted_of ha hg hj hf]; cases want <;> rfl
  have hy : yielded ops a.tmps j = none := by
    have h := ha.2.2 t
    rw [hf] at h
    unfold yielded
    rw [hj]
    simp only [Option.bind_some]
    rcases Nat.lt_or_ge t a.tmps.size with hl | hl
    · simp [Array.getD, hl] at h
      simp [hl, h, undef]
    simp [Array.getElem?_eq_none hl]
  unfold Region.wanted
  simp only [hg, hy]
  rfl
theorem RA.gno (i : Nat) {j t : Nat} {want : Bool} (hi : ops[i]? = some o) (hok : takeOk ops listed i = true) (hg : o.guard = some (j, want)) (hj : (ops[j]?).bind (·.dst) = some t) (hf : f t = .bool (!want) ∨ f t = undef) (hd : o.dst = some d) (hn : d < n)
    (h : RA P n ops Q S fuel (listed.setIfInBounds i true) (st f d undef) w) : RA P n ops Q S (fuel + 1) listed f w :=
  RA.take0 (S0 := fun _ => True) i hi hok (.inl fun _ => trivial) trivial hd hn (fun a ha => .inr ⟨unwanted_of ha hg hj hf, rfl⟩) h
theorem RA.done (hr : Region.ready .any ops listed = []) (h : Q.nrm f w) : RA P n ops Q S fuel listed f w := fun a ha => by
  cases fuel with
  | zero => exact ⟨hr, f, ha, h⟩
  | succ k => exact ⟨fun _ => ⟨f, ha, h⟩, by rw [hr]; simp⟩
def RS (P : Program) (n : Nat) (ops : Array Oper) (Q : Po) (S : World → Prop) (fuel : Nat) (listed : Array Bool) (f : Nat → Value) (w : World) (rs : List Nat) : Prop :=
  ∀ i ∈ rs, ∀ a, Fm n f a → wpOp P ops (up n Q) i (fun a' w' => Oks ops S i w w' ∧ wpAnyF P ops (up n Q) S fuel (listed.setIfInBounds i true) a' w') a w
theorem RA.all (rs : List Nat) (hr : Region.ready .any ops listed = rs) (hne : rs.isEmpty = false) (h : RS P n ops Q S fuel listed f w rs) : RA P n ops Q S (fuel + 1) listed f w := fun a ha =>
  ⟨fun h0 => by rw [hr] at h0; subst h0; simp at hne, fun i hi => h i (by rw [← hr]; exact hi) a ha⟩
variable {i : Nat} {rs : List Nat}
theorem RS.nil : RS P n ops Q S fuel listed f w [] := fun _ h => by cases h
theorem RS.val (hi : ops[i]? = some o) (hg : o.guard = none) (hd : o.dst = some d) (hn : d < n) (hr : (execOp (ev f) o).run P w = .ok (.value v) w') (hS : Oks ops S i w w')
    (h : RA P n ops Q S fuel (listed.setIfInBounds i true) (st f d v) w') (hs : RS P n ops Q S fuel listed f w rs) : RS P n ops Q S fuel listed f w (i :: rs) := fun j hj => by
  rcases List.mem_cons.1 hj with rfl | hj
  · intro a ha
    unfold wpOp
    simp only [hi, Region.wanted, hg, if_true]
    refine .inl ?_
    unfold Oper.wp
    rw [ha.eval, hr]
    exact ⟨hS, h _ (by rw [hd]; exact ha.put hn v)⟩
  exact hs j hj
theorem RS.skip (hi : ops[i]? = some o) (hg : o.guard = none) (hd : o.dst = none) (hr : (execOp (ev f) o).run P w = .ok .skip w') (hS : Oks ops S i w w')
    (h : RA P n ops Q S fuel (listed.setIfInBounds i true) f w') (hs : RS P n ops Q S fuel listed f w rs) : RS P n ops Q S fuel listed f w (i :: rs) := fun j hj => by
  rcases List.mem_cons.1 hj with rfl | hj
  · intro a ha
    unfold wpOp
    simp only [hi, Region.wanted, hg, if_true]
    refine .inl ?_
    unfold Oper.wp
    rw [ha.eval, hr]
    exact ⟨hS, h _ (by rw [hd]; exact ha)⟩
  exact hs j hj
theorem RS.call {k : FuncId} {args : Array Value} {Post : Value → World → Prop} (hi : ops[i]? = some o) (hg : o.guard = none) (hd : o.dst = some d) (hn : d < n) (hr : (execOp (ev f) o).run P w = .ok (.enter k args) w)
    (hc : Calls P k args w fun e w' => ∃ v, e = .returned v ∧ Post v w') (h : ∀ v w', Post v w' → Oks ops S i w w' ∧ RA P n ops Q S fuel (listed.setIfInBounds i true) (st f d v) w')
    (hs : RS P n ops Q S fuel listed f w rs) : RS P n ops Q S fuel listed f w (i :: rs) := fun j hj => by
  rcases List.mem_cons.1 hj with rfl | hj
  · intro a ha
    unfold wpOp
    simp only [hi, Region.wanted, hg, if_true]
    refine .inl ?_
    unfold Oper.wp
    rw [ha.eval, hr]
    refine hc.mono fun e w1 ⟨u, he, hp⟩ => ?_
    subst he
    obtain ⟨h1, h2⟩ := h u w1 hp
    exact ⟨h1, h2 _ (by rw [hd]; exact ha.put hn u)⟩
  exact hs j hj
theorem RS.gcall {j0 t : Nat} {want : Bool} {k : FuncId} {args : Array Value} {Post : Value → World → Prop} (hi : ops[i]? = some o) (hg : o.guard = some (j0, want)) (hj0 : (ops[j0]?).bind (·.dst) = some t) (hf : f t = .bool want) (hd : o.dst = some d) (hn : d < n) (hr : (execOp (ev f) o).run P w = .ok (.enter k args) w)
    (hc : Calls P k args w fun e w' => ∃ v, e = .returned v ∧ Post v w') (h : ∀ v w', Post v w' → Oks ops S i w w' ∧ RA P n ops Q S fuel (listed.setIfInBounds i true) (st f d v) w')
    (hs : RS P n ops Q S fuel listed f w rs) : RS P n ops Q S fuel listed f w (i :: rs) := fun j hj => by
  rcases List.mem_cons.1 hj with rfl | hj
  · intro a ha
    unfold wpOp
    simp only [hi, wanted_of ha hg hj0 hf, BEq.rfl, if_true]
    refine .inl ?_
    unfold Oper.wp
    rw [ha.eval, hr]
    refine hc.mono fun e w1 ⟨u, he, hp⟩ => ?_
    subst he
    obtain ⟨h1, h2⟩ := h u w1 hp
    exact ⟨h1, h2 _ (by rw [hd]; exact ha.put hn u)⟩
  exact hs j hj
theorem RS.gno {j0 t : Nat} {want : Bool} (hi : ops[i]? = some o) (hg : o.guard = some (j0, want)) (hj0 : (ops[j0]?).bind (·.dst) = some t) (hf : f t = .bool (!want) ∨ f t = undef) (hd : o.dst = some d) (hn : d < n) (hS : Oks ops S i w w)
    (h : RA P n ops Q S fuel (listed.setIfInBounds i true) (st f d undef) w) (hs : RS P n ops Q S fuel listed f w rs) : RS P n ops Q S fuel listed f w (i :: rs) := fun j hj => by
  rcases List.mem_cons.1 hj with rfl | hj
  · intro a ha
    unfold wpOp
    simp only [hi, unwanted_of ha hg hj0 hf, Bool.false_eq_true, if_false]
    exact ⟨hS, h _ (by rw [hd]; exact ha.put hn undef)⟩
  exact hs j hj
end ra
end Go.Vg
namespace Go.Vg
open Go.RowKit
section
variable {P : Program} {f : Nat → Value} {w : World} {dst : Option Tmp} {ty : TypeId} {pos : String} {aft : Array Edge} {g : Option (Nat × Bool)} {x y z : Operand} {t t' : TypeId} {k : IntKind} {a b c : Int}
theorem r_move_as {v : Value} (h : ev f x = v) : (execOp (ev f) ⟨dst, .move x, ty, pos, aft, g⟩).run P w = .ok (.value v) w := by rw [← h]; rfl
theorem r_assign_as {v : Value} (h : ev f x = v) : (execOp (ev f) ⟨dst, .assign x, ty, pos, aft, g⟩).run P w = .ok (.value v) w := by rw [← h]; rfl
theorem r_pick_t {v : Value} (hc : ev f x = .bool true) (h : ev f y = v) : (execOp (ev f) ⟨dst, .pick x y z, ty, pos, aft, g⟩).run P w = .ok (.value v) w := by
  simp [execOp, hc, h, asBool]
theorem r_pick_f {v : Value} (hc : ev f x = .bool false) (h : ev f z = v) : (execOp (ev f) ⟨dst, .pick x y z, ty, pos, aft, g⟩).run P w = .ok (.value v) w := by
  simp [execOp, hc, h, asBool]
theorem r_add (hx : ev f x = .int k a) (hy : ev f y = .int k b) (hw : k.wrap (a + b) = c) : (execOp (ev f) ⟨dst, .binOp .add t x y t', ty, pos, aft, g⟩).run P w = .ok (.value (.int k c)) w := by
  simp [execOp, hx, hy, eqGuard, binOp, Op.intArith, hw]
theorem r_sub (hx : ev f x = .int k a) (hy : ev f y = .int k b) (hw : k.wrap (a - b) = c) : (execOp (ev f) ⟨dst, .binOp .sub t x y t', ty, pos, aft, g⟩).run P w = .ok (.value (.int k c)) w := by
  simp [execOp, hx, hy, eqGuard, binOp, Op.intArith, hw]
theorem r_mul (hx : ev f x = .int k a) (hy : ev f y = .int k b) (hw : k.wrap (a * b) = c) : (execOp (ev f) ⟨dst, .binOp .mul t x y t', ty, pos, aft, g⟩).run P w = .ok (.value (.int k c)) w := by
  simp [execOp, hx, hy, eqGuard, binOp, Op.intArith, hw]
theorem r_quo (hx : ev f x = .int k a) (hy : ev f y = .int k b) (hb : b ≠ 0) (hw : k.wrap (a.tdiv b) = c) : (execOp (ev f) ⟨dst, .binOp .quo t x y t', ty, pos, aft, g⟩).run P w = .ok (.value (.int k c)) w := by
  simp [execOp, hx, hy, eqGuard, binOp, Op.intDiv, hb, hw]
theorem r_rem (hx : ev f x = .int k a) (hy : ev f y = .int k b) (hb : b ≠ 0) (hw : a.tmod b = c) : (execOp (ev f) ⟨dst, .binOp .rem t x y t', ty, pos, aft, g⟩).run P w = .ok (.value (.int k c)) w := by
  simp [execOp, hx, hy, eqGuard, binOp, Op.intDiv, hb, hw]
theorem r_shl {kk : IntKind} (hx : ev f x = .int k a) (hy : ev f y = .int kk b) (hb : 0 ≤ b) (hw : k.wrap (a * 2 ^ (min b.toNat k.bits)) = c) : (execOp (ev f) ⟨dst, .binOp .shl t x y t', ty, pos, aft, g⟩).run P w = .ok (.value (.int k c)) w := by
  simp [execOp, hx, hy, eqGuard, binOp, Op.shift, Int.not_lt.2 hb, hw]
theorem r_shr {kk : IntKind} (hx : ev f x = .int k a) (hy : ev f y = .int kk b) (hb : 0 ≤ b) (hw : a.fdiv (2 ^ (min b.toNat k.bits)) = c) : (execOp (ev f) ⟨dst, .binOp .shr t x y t', ty, pos, aft, g⟩).run P w = .ok (.value (.int k c)) w := by
  simp [execOp, hx, hy, eqGuard, binOp, Op.shift, Int.not_lt.2 hb, hw]
theorem r_or (hx : ev f x = .int k a) (hy : ev f y = .int k b) (hw : k.wrap ((BitVec.ofInt k.bits a ||| BitVec.ofInt k.bits b).toNat : Int) = c) : (execOp (ev f) ⟨dst, .binOp .or t x y t', ty, pos, aft, g⟩).run P w = .ok (.value (.int k c)) w := by
  simp only [execOp, hx, hy, eqGuard, binOp]
  simp [Op.intBits]
  simpa using hw
theorem r_and (hx : ev f x = .int k a) (hy : ev f y = .int k b) (hw : k.wrap ((BitVec.ofInt k.bits a &&& BitVec.ofInt k.bits b).toNat : Int) = c) : (execOp (ev f) ⟨dst, .binOp .and t x y t', ty, pos, aft, g⟩).run P w = .ok (.value (.int k c)) w := by
  simp only [execOp, hx, hy, eqGuard, binOp]
  simp [Op.intBits]
  simpa using hw
theorem r_lss (hx : ev f x = .int k a) (hy : ev f y = .int k b) : (execOp (ev f) ⟨dst, .binOp .lss t x y t', ty, pos, aft, g⟩).run P w = .ok (.value (.bool (decide (a < b)))) w := by
  simp [execOp, hx, hy, eqGuard, binOp, Op.intCmp]
theorem r_leq (hx : ev f x = .int k a) (hy : ev f y = .int k b) : (execOp (ev f) ⟨dst, .binOp .leq t x y t', ty, pos, aft, g⟩).run P w = .ok (.value (.bool (decide (a ≤ b)))) w := by
  simp [execOp, hx, hy, eqGuard, binOp, Op.intCmp]
theorem r_gtr (hx : ev f x = .int k a) (hy : ev f y = .int k b) : (execOp (ev f) ⟨dst, .binOp .gtr t x y t', ty, pos, aft, g⟩).run P w = .ok (.value (.bool (decide (b < a)))) w := by
  simp [execOp, hx, hy, eqGuard, binOp, Op.intCmp]
theorem r_geq (hx : ev f x = .int k a) (hy : ev f y = .int k b) : (execOp (ev f) ⟨dst, .binOp .geq t x y t', ty, pos, aft, g⟩).run P w = .ok (.value (.bool (decide (b ≤ a)))) w := by
  simp [execOp, hx, hy, eqGuard, binOp, Op.intCmp]
theorem r_eql (hx : ev f x = .int k a) (hy : ev f y = .int k b) : (execOp (ev f) ⟨dst, .binOp .eql t x y t', ty, pos, aft, g⟩).run P w = .ok (.value (.bool (decide (a = b)))) w := by
  simp [execOp, hx, hy, eqGuard, binOp, Op.intCmp]
  rfl
theorem r_neq (hx : ev f x = .int k a) (hy : ev f y = .int k b) : (execOp (ev f) ⟨dst, .binOp .neq t x y t', ty, pos, aft, g⟩).run P w = .ok (.value (.bool (decide (a ≠ b)))) w := by
  simp [execOp, hx, hy, eqGuard, binOp, Op.intCmp]
  rfl
theorem run_equalIn_bool (d : Nat) {p q : Bool} (ht : P.underlying t = some .bool) : (Op.equalIn (d + 1) t (.bool p) (.bool q)).run P w = .ok (p == q) w := by
  simp [Op.equalIn, run_underlying ht]
theorem r_eqlb {p q : Bool} (ht : P.underlying t = some .bool) (hx : ev f x = .bool p) (hy : ev f y = .bool q) : (execOp (ev f) ⟨dst, .binOp .eql t x y t', ty, pos, aft, g⟩).run P w = .ok (.value (.bool (p == q))) w := by
  have h := run_equalIn_bool (P := P) (w := w) (t := t) 9999 (p := p) (q := q) ht
  simp only [execOp, hx, hy, eqGuard, binOp]
  simp [Op.equal, Op.maxDepth, h]
theorem r_neqb {p q : Bool} (ht : P.underlying t = some .bool) (hx : ev f x = .bool p) (hy : ev f y = .bool q) : (execOp (ev f) ⟨dst, .binOp .neq t x y t', ty, pos, aft, g⟩).run P w = .ok (.value (.bool (p != q))) w := by
  have h := run_equalIn_bool (P := P) (w := w) (t := t) 9999 (p := p) (q := q) ht
  simp only [execOp, hx, hy, eqGuard, binOp]
  simp [Op.equal, Op.maxDepth, h]
  cases p <;> cases q <;> rfl
theorem r_not {p : Bool} (hx : ev f x = .bool p) : (execOp (ev f) ⟨dst, .unOp .not t x, ty, pos, aft, g⟩).run P w = .ok (.value (.bool (!p))) w := by
  simp [execOp, hx, Op.unary]
theorem r_neg (hx : ev f x = .int k a) (hw : k.wrap (0 - a) = c) : (execOp (ev f) ⟨dst, .unOp .neg t x, ty, pos, aft, g⟩).run P w = .ok (.value (.int k c)) w := by
  simp only [execOp, hx, Op.unary, Op.intArith, hw]
  rfl
theorem r_conv {k' : IntKind} {d : TypeDesc} (h1 : P.underlying t = some d) (h2 : P.underlying t' = some (.int k)) (hx : ev f x = .int k' a) (hw : k.wrap a = c) : (execOp (ev f) ⟨dst, .convert t t' x, ty, pos, aft, g⟩).run P w = .ok (.value (.int k c)) w := by
  simp only [execOp, hx, convert, Sem.run_bind, run_underlying h1, run_underlying h2, Result.andThen_ok]
  cases d <;> simp [Conv.intToInt, hw]
theorem r_extract {vs : Array Value} {i : Nat} {v : Value} (hx : ev f x = .tuple vs) (hv : vs[i]? = some v) : (execOp (ev f) ⟨dst, .extract x i, ty, pos, aft, g⟩).run P w = .ok (.value v) w := by
  simp [execOp, hx, Instr.extract, hv]
theorem r_len {e : TypeId} {A : Option Addr} {n c : Nat} (ht : P.underlying t = some (.slice e)) (hx : ev f x = .slice A n c) :
    (execOp (ev f) ⟨dst, .call ⟨.builtin .len, #[x], #[t]⟩, ty, pos, aft, g⟩).run P w = .ok (.value (.int .i64 n)) w := by
  simp [execOp, resolve, invoke, builtin, Builtin.len_, run_underlying ht, hx, goInt]
theorem r_max2 (hx : ev f x = .int k a) (hy : ev f y = .int k b) : (execOp (ev f) ⟨dst, .call ⟨.builtin .max, #[x, y], #[t, t']⟩, ty, pos, aft, g⟩).run P w = .ok (.value (.int k (if b > a then b else a))) w := by
  simp [execOp, resolve, invoke, builtin, Builtin.max_, hx, hy, Builtin.max2]
def Ent (P : Program) (k : FuncId) : Prop := ∀ args w, (callFunc k args).run P w = .ok (.enter k args) w
theorem r_call {kf : FuncId} {al : List Operand} {vl : List Value} {tys : Array TypeId} (he : Ent P kf) (ha : al.map (ev f) = vl) :
    (execOp (ev f) ⟨dst, .call ⟨.value (.func kf), al.toArray, tys⟩, ty, pos, aft, g⟩).run P w = .ok (.enter kf vl.toArray) w := by
  subst ha
  unfold Ent at he
  simp [execOp, resolve, Deferred.ofValue, ev, invoke, he]
theorem r_callv {kf : FuncId} {al : List Operand} {vl cl : List Value} {tys : Array TypeId} (hx : ev f x = .func (.func kf) #[] cl.toArray) (he : Ent P kf) (ha : al.map (ev f) = vl) :
    (execOp (ev f) ⟨dst, .call ⟨.value x, al.toArray, tys⟩, ty, pos, aft, g⟩).run P w = .ok (.enter kf (vl ++ cl).toArray) w := by
  subst ha
  unfold Ent at he
  simp [execOp, resolve, hx, Deferred.ofValue, invoke, he]
theorem r_makeFunc {fn : Fn} {cl : List Operand} {vl : List Value} (hc : cl.map (ev f) = vl) : (execOp (ev f) ⟨dst, .makeFunc fn #[] cl.toArray, ty, pos, aft, g⟩).run P w = .ok (.value (.func fn #[] vl.toArray)) w := by
  subst hc
  simp [execOp, Instr.makeFunc]
end
/-! ### a number that fits is itself -/
theorem wi64 {z : Int} (h : -9223372036854775808 ≤ z ∧ z ≤ 9223372036854775807) : IntKind.i64.wrap z = z := by
  rw [IntKind.wrap_i64]; omega
theorem wu64 {z : Int} (h : 0 ≤ z ∧ z ≤ 18446744073709551615) : IntKind.u64.wrap z = z := by
  rw [IntKind.wrap_u64]; omega
theorem wu32 {z : Int} (h : 0 ≤ z ∧ z ≤ 4294967295) : IntKind.u32.wrap z = z := by
  rw [IntKind.wrap_u32]; omega
theorem wu64m (z : Int) : IntKind.u64.wrap z = z % 18446744073709551616 := by rw [IntKind.wrap_u64]
theorem wu32m (z : Int) : IntKind.u32.wrap z = z % 4294967296 := by rw [IntKind.wrap_u32]
end Go.Vg
namespace Go.Vg
open Go.RowKit
/-! ### worlds -/
abbrev Ext (w w' : World) : Prop := Below w.heap.size w w'
theorem Ext.trans {a b c : World} (h : Ext a b) (k : Ext b c) : Ext a c := Below.trans h (Below.mono k h.size)
theorem Ext.refl (w : World) : Ext w w := Below.refl _ _
theorem Ext.drew (w : World) : Ext w w.drew := (Below.refl _ _).drew
theorem Below.ext {B : Nat} {w0 w w' : World} (h : Below B w0 w) (hB : B ≤ w.heap.size) (k : Ext w w') : Below B w0 w' := h.trans (k.mono hB)
structure Exc (b : Nat) (w w' : World) : Prop where
  os : w'.os = w.os
  tape : w'.tape = w.tape
  output : w'.output = w.output
  size : w.heap.size ≤ w'.heap.size
  block : ∀ k, k < w.heap.size → k ≠ b → w'.heap[k]? = w.heap[k]?
theorem Below.exc {B b : Nat} {w0 w w' : World} (h : Below B w0 w) (hB : B ≤ w.heap.size) (k : Exc b w w') (hb : B ≤ b) : Below B w0 w' :=
  h.trans ⟨k.os, k.tape, k.output, k.size, fun i hi => k.block i oM oM⟩
theorem Exc.of_ext {b : Nat} {w w' : World} (h : Ext w w') : Exc b w w' := ⟨h.os, h.tape, h.output, h.size, fun k hk _ => h.block k hk⟩
theorem Exc.trans {b : Nat} {a c d : World} (h : Exc b a c) (k : Exc b c d) : Exc b a d :=
  ⟨k.os.trans h.os, k.tape.trans h.tape, k.output.trans h.output, Nat.le_trans h.size k.size, fun i hi hb => (k.block i (Nat.lt_of_lt_of_le hi h.size) hb).trans (h.block i hi hb)⟩
def Sm (D : Nat → TypeId → Prop) (w w' : World) : Prop := ∀ b cs T fz, w.heap[b]? = some (.cells cs T fz) → D b T → w'.heap[b]? = some (.cells cs T fz)
theorem lt_of_heap {w : World} {b : Nat} {o : Obj} (h : w.heap[b]? = some o) : b < w.heap.size := (Array.getElem?_eq_some_iff.1 h).1
theorem Sm.refl {D : Nat → TypeId → Prop} (w : World) : Sm D w w := fun _ _ _ _ h _ => h
theorem Sm.trans {D : Nat → TypeId → Prop} {a b c : World} (h : Sm D a b) (k : Sm D b c) : Sm D a c := fun _ _ _ _ hh hd => k _ _ _ _ (h _ _ _ _ hh hd) hd
theorem _root_.Go.RowKit.Below.sm {D : Nat → TypeId → Prop} {B : Nat} {w w' : World} (h : Below B w w') (hD : ∀ b T, D b T → b < B) : Sm D w w' :=
  fun b _ T _ hh hd => (h.block b (hD b T hd)).trans hh
theorem Sm.ext {D : Nat → TypeId → Prop} {w w' : World} (h : Ext w w') : Sm D w w' := fun b _ _ _ hh _ => (h.block b (lt_of_heap hh)).trans hh
theorem Sm.exc {D : Nat → TypeId → Prop} {b0 : Nat} {w w' : World} (h : Exc b0 w w') (hD : ∀ cs T fz, w.heap[b0]? = some (.cells cs T fz) → ¬ D b0 T) : Sm D w w' := fun b cs T fz hh hd => by
  have hne : b ≠ b0 := fun e => by subst e; exact hD cs T fz hh hd
  exact (h.block b (lt_of_heap hh) hne).trans hh
def Bk (w : World) (b : Nat) (T : TypeId) (l : List Value) : Prop := w.heap[b]? = some (.cells l.toArray T (0, 0))
theorem Bk.lt {w : World} {b : Nat} {T : TypeId} {l : List Value} (h : Bk w b T l) : b < w.heap.size := lt_of_heap h
theorem Bk.ext {w w' : World} {b : Nat} {T : TypeId} {l : List Value} (h : Bk w b T l) (e : Ext w w') : Bk w' b T l := (e.block b h.lt).trans h
theorem Bk.exc {w w' : World} {b b0 : Nat} {T : TypeId} {l : List Value} (h : Bk w b T l) (e : Exc b0 w w') (hne : b ≠ b0) : Bk w' b T l := (e.block b h.lt hne).trans h
theorem Bk.cell {w : World} {b : Nat} {T : TypeId} {l : List Value} (h : Bk w b T l) {j : Nat} {u : Value} (hj : l[j]? = some u) : w.cell? ⟨b, j, none⟩ = some u := by
  simp only [World.cell?]
  rw [show w.heap[b]? = _ from h]
  simpa using hj
theorem Bk.sm {w : World} {b : Nat} {T : TypeId} {l : List Value} {D : Nat → TypeId → Prop} {w' : World} (h : Bk w b T l) (e : Exc b w w') (hD : ¬ D b T) : Sm D w w' :=
  Sm.exc e fun cs T' fz hh => by
    rw [show w.heap[b]? = _ from h] at hh
    injection hh with hh
    injection hh with _ hT _
    subst hT
    exact hD
/-! ### rows that are read -/
def Rd (D : Nat → TypeId → Prop) (w : World) (b o : Nat) (l : List Value) : Prop := l = [] ∨ ∃ cs T fz, w.heap[b]? = some (.cells cs T fz) ∧ D b T ∧ ∀ j u, l[j]? = some u → cs[o + j]? = some u
section rd
variable {D D' : Nat → TypeId → Prop} {w w' : World} {b o : Nat} {l : List Value}
theorem Rd.tr (h : Rd D w b o l) (hs : Sm D w w') : Rd D w' b o l := by
  rcases h with h | ⟨cs, T, fz, hh, hd, hc⟩
  · exact .inl h
  exact .inr ⟨cs, T, fz, hs b cs T fz hh hd, hd, hc⟩
theorem Rd.mono (h : Rd D w b o l) (hD : ∀ b T, D b T → D' b T) : Rd D' w b o l := by
  rcases h with h | ⟨cs, T, fz, hh, hd, hc⟩
  · exact .inl h
  exact .inr ⟨cs, T, fz, hh, hD _ _ hd, hc⟩
theorem Rd.cell (h : Rd D w b o l) {j : Nat} {u : Value} (hj : l[j]? = some u) : w.cell? ⟨b, o + j, none⟩ = some u := by
  rcases h with rfl | ⟨cs, T, fz, hh, hd, hc⟩
  · simp at hj
  simp only [World.cell?, hh]
  simpa using hc j u hj
theorem Rd.drop (h : Rd D w b o l) (k : Nat) : Rd D w b (o + k) (l.drop k) := by
  rcases h with rfl | ⟨cs, T, fz, hh, hd, hc⟩
  · exact .inl (by simp)
  refine .inr ⟨cs, T, fz, hh, hd, fun j u hj => ?_⟩
  rw [Nat.add_assoc]
  exact hc (k + j) u (by rw [← hj, List.getElem?_drop])
theorem Rd.take (h : Rd D w b o l) (k : Nat) : Rd D w b o (l.take k) := by
  rcases h with rfl | ⟨cs, T, fz, hh, hd, hc⟩
  · exact .inl (by simp)
  refine .inr ⟨cs, T, fz, hh, hd, fun j u hj => ?_⟩
  rw [List.getElem?_take] at hj
  split at hj
  · exact hc j u hj
  cases hj
theorem Bk.rd {T : TypeId} {m : Nat} (h : Bk w b T l) (hd : D b T) : Rd D w b m (l.drop m) :=
  .inr ⟨l.toArray, T, (0, 0), h, hd, fun j u hj => by rw [List.getElem?_drop] at hj; simpa using hj⟩
end rd
def Sc (D : Nat → TypeId → Prop) (w : World) (size : Nat) (v : Value) (n : Nat) (l : List Value) : Prop :=
  ∃ A c, v = .slice A n c ∧ n ≤ c ∧ c ≤ maxLen ∧ l.length = n * size ∧ (l = [] ∨ ∃ b o, A = some ⟨b, o, none⟩ ∧ Rd D w b o l)
section sc
variable {D D' : Nat → TypeId → Prop} {w w' : World} {size n : Nat} {v : Value} {l : List Value}
theorem Sc.tr (h : Sc D w size v n l) (hs : Sm D w w') : Sc D w' size v n l := by
  obtain ⟨A, c, rfl, h1, h2, h3, h4⟩ := h
  exact ⟨A, c, rfl, h1, h2, h3, h4.imp id fun ⟨b, o, e, r⟩ => ⟨b, o, e, r.tr hs⟩⟩
theorem Sc.mono (h : Sc D w size v n l) (hD : ∀ b T, D b T → D' b T) : Sc D' w size v n l := by
  obtain ⟨A, c, rfl, h1, h2, h3, h4⟩ := h
  exact ⟨A, c, rfl, h1, h2, h3, h4.imp id fun ⟨b, o, e, r⟩ => ⟨b, o, e, r.mono hD⟩⟩
theorem Sc.nil : Sc D w size (.slice none 0 0) 0 [] := ⟨none, 0, rfl, Nat.le_refl _, by simp [maxLen], by simp, .inl rfl⟩
end sc
/-! ### types -/
structure TyI (P : Program) (e : TypeId) (size bytes : Nat) (z : Value) : Prop where
  mk' ::
  ex : ∃ i, P.info? e = some i ∧ i.zero = some z ∧ i.size = size ∧ i.bytes = bytes
theorem TyI.of {P : Program} {e : TypeId} {size bytes : Nat} {z : Value} (h : (P.info? e).map (fun i => (i.zero, i.size, i.bytes)) = some (some z, size, bytes)) : TyI P e size bytes z := by
  obtain ⟨i, h1, h2, h3, h4⟩ := info_parts h
  exact ⟨i, h1, h2, h3, h4⟩
def aggB (P : Program) (t : TypeId) : Bool := match P.underlying t with
  | some (.struct _) | some (.array _ _) => true
  | _ => false
theorem run_isAgg {P : Program} {t : TypeId} {d : TypeDesc} (hu : P.underlying t = some d) (w : World) : (isAgg t).run P w = .ok (aggB P t) w := by
  unfold isAgg aggB
  simp only [Sem.run_bind, run_underlying hu, Result.andThen_ok, hu]
  cases d <;> rfl
section ops
variable {P : Program} {f : Nat → Value} {w : World} {dst : Option Tmp} {ty : TypeId} {pos : String} {aft : Array Edge} {g : Option (Nat × Bool)} {x y z : Operand} {t t' e : TypeId}
theorem add_spotless (b o n : Nat) : (⟨b, o, none⟩ : Addr).add n = ⟨b, o + n, none⟩ := by
  unfold Addr.add
  split
  · simp_all
  rfl
theorem r_load {d : TypeDesc} {p : Addr} {v : Value} (hu : P.underlying t = some d) (hb : aggB P t = false) (hx : ev f x = .pointer (some p)) (hc : w.cell? p = some v) :
    (execOp (ev f) ⟨dst, .load t x, ty, pos, aft, g⟩).run P w = .ok (.value v) w := by
  simp [execOp, hx, Instr.loadAt, Instr.sureAddr, loadVar, run_isAgg hu, hb, load, Sem.run, hc]
theorem r_loada {d : TypeDesc} {b o : Nat} {cs : List Value} {bytes : Nat} {zz : Value} (hu : P.underlying t = some d) (hb : aggB P t = true) (ht : TyI P t cs.length bytes zz) (hx : ev f x = .pointer (some ⟨b, o, none⟩)) (hc : ∀ j u, cs[j]? = some u → w.cell? ⟨b, o + j, none⟩ = some u) :
    (execOp (ev f) ⟨dst, .load t x, ty, pos, aft, g⟩).run P w = .ok (.value (.agg cs.toArray)) w := by
  obtain ⟨i, hi, _, hs, _⟩ := ht.ex
  have h := run_loadCells_list (P := P) w (⟨b, o, none⟩ : Addr) cs (fun j u hj => by rw [add_spotless]; exact hc j u hj)
  simp [execOp, hx, Instr.loadAt, Instr.sureAddr, loadVar, run_isAgg hu, hb, sizeOf, typeInfo, hi, hs, h]
theorem r_field {d : TypeDesc} {fs : Array Field} {fl : Field} {i : Nat} {cs : Array Value} {v : Value} (hu : P.underlying t = some (.struct fs)) (hf : fs[i]? = some fl) (hd : P.underlying fl.type = some d) (hb : aggB P fl.type = false)
    (hx : ev f x = .agg cs) (hc : cs[fl.offset]? = some v) : (execOp (ev f) ⟨dst, .field t x i, ty, pos, aft, g⟩).run P w = .ok (.value v) w := by
  simp [execOp, hx, Instr.field, run_underlying hu, hf, asAgg, part, run_isAgg hd, hb, hc]
theorem r_fielda {d : TypeDesc} {fs : Array Field} {fl : Field} {i size bytes : Nat} {zz : Value} {cs : Array Value} (hu : P.underlying t = some (.struct fs)) (hf : fs[i]? = some fl) (hd : P.underlying fl.type = some d) (hb : aggB P fl.type = true) (ht : TyI P fl.type size bytes zz)
    (hx : ev f x = .agg cs) : (execOp (ev f) ⟨dst, .field t x i, ty, pos, aft, g⟩).run P w = .ok (.value (.agg (cs.extract fl.offset (fl.offset + size)))) w := by
  obtain ⟨ii, hi, _, hs, _⟩ := ht.ex
  simp [execOp, hx, Instr.field, run_underlying hu, hf, asAgg, part, run_isAgg hd, hb, sizeOf, typeInfo, hi, hs]
theorem r_fieldAddr {fs : Array Field} {fl : Field} {i size bytes : Nat} {zz : Value} {b o : Nat} (hu : P.underlying t = some (.struct fs)) (hf : fs[i]? = some fl) (ht : TyI P fl.type (size + 1) bytes zz) (hx : ev f x = .pointer (some ⟨b, o, none⟩)) :
    (execOp (ev f) ⟨dst, .fieldAddr t x i, ty, pos, aft, g⟩).run P w = .ok (.value (.pointer (some ⟨b, o + fl.offset, none⟩))) w := by
  obtain ⟨ii, hi, _, hs, _⟩ := ht.ex
  simp [execOp, hx, Instr.fieldAt, Instr.sureAddr, run_underlying hu, hf, fieldPlace, sizeOf, typeInfo, hi, hs, add_spotless]
theorem r_indexAddr {k : IntKind} {i : Int} {b o n c size bytes : Nat} {zz : Value} (hu : P.underlying t = some (.slice e)) (ht : TyI P e size bytes zz) (hx : ev f x = .slice (some ⟨b, o, none⟩) n c) (hy : ev f y = .int k i) (h0 : 0 ≤ i) (h1 : i < n) :
    (execOp (ev f) ⟨dst, .indexAddr t x y, ty, pos, aft, g⟩).run P w = .ok (.value (.pointer (some ⟨b, o + i.toNat * size, none⟩))) w := by
  obtain ⟨ii, hi, _, hs, _⟩ := ht.ex
  simp [execOp, hx, hy, Instr.indexAt, asIntOf, run_underlying hu, sizeOf, typeInfo, hi, hs, h0, h1, add_spotless]
theorem r_slice_h {k : IntKind} {A : Option Addr} {n c size bytes : Nat} {h : Int} {zz : Value} (hu : P.underlying t = some (.slice e)) (ht : TyI P e size bytes zz) (hx : ev f x = .slice A n c) (hy : ev f y = .int k h) (h0 : 0 ≤ h) (h1 : h ≤ c) :
    (execOp (ev f) ⟨dst, .slice t x none (some y) none, ty, pos, aft, g⟩).run P w = .ok (.value (.slice A h.toNat c)) w := by
  obtain ⟨ii, hi, _, hs, _⟩ := ht.ex
  have hz : ∀ o : Option Addr, (o.map fun a => a.add 0) = o := fun o => by cases o <;> simp [Addr.add]
  simp [execOp, hx, hy, Instr.sliceAt, Instr.slice, Instr.sliceBounds, Instr.sliceBound, asIntOf, run_underlying hu, sizeOf, typeInfo, hi, hs, h0, h1, hz]
theorem r_slice_l {k : IntKind} {A : Option Addr} {n c size bytes : Nat} {l : Int} {zz : Value} (hu : P.underlying t = some (.slice e)) (ht : TyI P e size bytes zz) (hx : ev f x = .slice A n c) (hy : ev f y = .int k l) (h0 : 0 ≤ l) (h1 : l ≤ n) :
    (execOp (ev f) ⟨dst, .slice t x (some y) none none, ty, pos, aft, g⟩).run P w = .ok (.value (.slice (if c = l.toNat then A else A.map (·.add (l.toNat * size))) (n - l.toNat) (c - l.toNat))) w := by
  obtain ⟨ii, hi, _, hs, _⟩ := ht.ex
  simp [execOp, hx, hy, Instr.sliceAt, Instr.slice, Instr.sliceBounds, Instr.sliceBound, asIntOf, run_underlying hu, sizeOf, typeInfo, hi, hs, h0, h1]
theorem r_slice_lh {k k' : IntKind} {A : Option Addr} {n c size bytes : Nat} {l h : Int} {zz : Value} (hu : P.underlying t = some (.slice e)) (ht : TyI P e size bytes zz) (hx : ev f x = .slice A n c) (hy : ev f y = .int k l) (hz : ev f z = .int k' h) (h0 : 0 ≤ l) (h1 : l ≤ h) (h2 : h ≤ c) :
    (execOp (ev f) ⟨dst, .slice t x (some y) (some z) none, ty, pos, aft, g⟩).run P w = .ok (.value (.slice (if c = l.toNat then A else A.map (·.add (l.toNat * size))) (h.toNat - l.toNat) (c - l.toNat))) w := by
  obtain ⟨ii, hi, _, hs, _⟩ := ht.ex
  have h3 : 0 ≤ h := by omega
  have h4 : l ≤ (h.toNat : Int) := by omega
  simp [execOp, hx, hy, hz, Instr.sliceAt, Instr.slice, Instr.sliceBounds, Instr.sliceBound, asIntOf, run_underlying hu, sizeOf, typeInfo, hi, hs, h0, h1, h2, h3]
  intro hh
  omega
end ops
/-! ### operations that make or write memory -/
def Run (P : Program) (f : Nat → Value) (o : Oper) (w : World) (R : Value → World → Prop) : Prop := ∃ v w', (execOp (ev f) o).run P w = .ok (.value v) w' ∧ R v w'
def RunS (P : Program) (f : Nat → Value) (o : Oper) (w : World) (R : World → Prop) : Prop := ∃ w', (execOp (ev f) o).run P w = .ok .skip w' ∧ R w'
section
variable {P : Program} {n : Nat} {Q : Po} {f : Nat → Value} {w w' : World} {ops : Array Oper} {o : Oper} {rest : List Oper} {d : Nat} {R : Value → World → Prop} {R0 : World → Prop}
theorem RL.run (hg : o.guard = none) (hd : o.dst = some d) (hn : d < n) (hr : Run P f o w R) (h : ∀ v w', R v w' → RL P n ops rest Q (st f d v) w') : RL P n ops (o :: rest) Q f w := by
  obtain ⟨v, w', hr, hR⟩ := hr
  exact RL.val hg hd hn hr (h v w' hR)
theorem RL.runs (hg : o.guard = none) (hd : o.dst = none) (hr : RunS P f o w R0) (h : ∀ w', R0 w' → RL P n ops rest Q f w') : RL P n ops (o :: rest) Q f w := by
  obtain ⟨w', hr, hR⟩ := hr
  exact RL.skip hg hd hr (h w' hR)
variable {S : World → Prop} {fuel : Nat} {listed : Array Bool} {i : Nat} {rs : List Nat}
theorem RS.run (hi : ops[i]? = some o) (hg : o.guard = none) (hd : o.dst = some d) (hn : d < n) (hr : Run P f o w R) (h : ∀ v w', R v w' → Oks ops S i w w' ∧ RA P n ops Q S fuel (listed.setIfInBounds i true) (st f d v) w')
    (hs : RS P n ops Q S fuel listed f w rs) : RS P n ops Q S fuel listed f w (i :: rs) := by
  obtain ⟨v, w', hr, hR⟩ := hr
  exact RS.val hi hg hd hn hr (h v w' hR).1 (h v w' hR).2 hs
theorem RS.runs (hi : ops[i]? = some o) (hg : o.guard = none) (hd : o.dst = none) (hr : RunS P f o w R0) (h : ∀ w', R0 w' → Oks ops S i w w' ∧ RA P n ops Q S fuel (listed.setIfInBounds i true) f w')
    (hs : RS P n ops Q S fuel listed f w rs) : RS P n ops Q S fuel listed f w (i :: rs) := by
  obtain ⟨w', hr, hR⟩ := hr
  exact RS.skip hi hg hd hr (h w' hR).1 (h w' hR).2 hs
end
def spl (l : List Value) (o : Nat) (vs : List Value) : List Value := l.take o ++ vs ++ l.drop (o + vs.length)
section heavy
variable {P : Program} {f : Nat → Value} {w : World} {dst : Option Tmp} {ty : TypeId} {pos : String} {aft : Array Edge} {g : Option (Nat × Bool)} {x y z : Operand} {t t' e : TypeId}
theorem ext_alloc (w : World) (o : Obj) : Ext w (w.alloc o) := (Below.refl _ _).alloc (Nat.le_refl _) o
theorem bk_alloc (w : World) (T : TypeId) (l : List Value) : Bk (w.alloc (.cells l.toArray T)) w.heap.size T l := heap_alloc_new w _
def Mk (w : World) (T : TypeId) (l : List Value) (b : Nat) (w' : World) : Prop := b = w.heap.size ∧ Bk w' b T l ∧ Ext w w'
theorem h_box {vv : Value} {cs : List Value} (hx : ev f x = vv) (hc : vv.cells = cs.toArray) : Run P f ⟨dst, .box t x, ty, pos, aft, g⟩ w fun v w' => ∃ b, v = .pointer (some ⟨b, 0, none⟩) ∧ Mk w t cs b w' :=
  ⟨_, _, by simp [execOp, hx, Instr.box, newVar, newRow, hc], _, rfl, rfl, bk_alloc w t cs, ext_alloc w _⟩
theorem h_alloc {size bytes : Nat} {zz : Value} {cs : List Value} (ht : TyI P t size bytes zz) (hc : zz.cells = cs.toArray) : Run P f ⟨dst, .alloc t, ty, pos, aft, g⟩ w fun v w' => ∃ b, v = .pointer (some ⟨b, 0, none⟩) ∧ Mk w t cs b w' := by
  obtain ⟨i, hi, hz, _, _⟩ := ht.ex
  exact ⟨_, _, by simp [execOp, Instr.alloc, zeroValue, typeInfo, hi, hz, newVar, newRow, hc], _, rfl, rfl, bk_alloc w t cs, ext_alloc w _⟩
theorem exc_setRow (w : World) (b : Nat) (cs : Array Value) : Exc b w (w.setRow b cs) :=
  ⟨rfl, rfl, rfl, by simp [World.setRow], fun k _ hne => by simp [World.setRow, Array.getElem?_modify, Ne.symm hne]⟩
theorem h_store {T : TypeId} {b o : Nat} {l : List Value} {vv : Value} {cs : List Value} {size bytes : Nat} {zz : Value} (ht : TyI P t size bytes zz) (hx : ev f x = .pointer (some ⟨b, o, none⟩)) (hy : ev f y = vv) (hc : vv.cells = cs.toArray) (hs : cs.length = size)
    (h1 : ∀ u ∈ cs, u.oneCell' = true) (hb : Bk w b T l) (hfit : o + cs.length ≤ l.length) :
    RunS P f ⟨dst, .store t x y, ty, pos, aft, g⟩ w fun w' => Bk w' b T (spl l o cs) ∧ Exc b w w' ∧ w'.heap.size = w.heap.size := by
  obtain ⟨i, hi, _, hsz, _⟩ := ht.ex
  have hst := run_storeCells_at P b o T cs 0 l.toArray w hb (by simpa using hfit) h1
  simp only [Nat.add_zero] at hst
  refine ⟨w.setRow b (spl l o cs).toArray, ?_, ?_, exc_setRow _ _ _, by simp [World.setRow]⟩
  · simp [execOp, hx, hy, Instr.storeAt, Instr.sureAddr, storeVar, hc, hs, hsz, sizeOf, typeInfo, hi, hst, spl]
  exact setRow_heap w b l.toArray _ T (0, 0) hb
end heavy
end Go.Vg
namespace Go.Vg
open Go.RowKit
section calls
variable {P : Program} {n : Nat} {f : Nat → Value} {w : World}
def Res1 (P : Program) (f : Nat → Value) (w : World) : ResultVar → Value → Prop
  | .tmp t, v => v = f t
  | .cell a T, v => ∃ b o cs, f a = .pointer (some ⟨b, o, none⟩) ∧ (∃ d, P.underlying T = some d) ∧ (∀ j u, cs[j]? = some u → w.cell? ⟨b, o + j, none⟩ = some u) ∧
      ((aggB P T = true ∧ (∃ by' z, TyI P T cs.length by' z) ∧ v = .agg cs.toArray) ∨ (aggB P T = false ∧ cs = [v]))
def Rets (P : Program) (f : Nat → Value) (w : World) : List ResultVar → List Value → Prop
  | [], [] => True
  | r :: rs, v :: vs => Res1 P f w r v ∧ Rets P f w rs vs
  | _, _ => False
def retv : List Value → Value
  | [v] => v
  | vs => .tuple vs.toArray
def rdv (tmps : Array Value) : ResultVar → Sem Value
  | .tmp t => pure (tmps.getD t undef)
  | .cell ad T => do loadVar T (← asAddr (tmps.getD ad undef))
theorem run_res1 {a : Act} (ha : Fm n f a) {r : ResultVar} {v : Value} (h : Res1 P f w r v) :
    (rdv a.tmps r).run P w = .ok v w := by
  cases r with
  | tmp t =>
    have h' : v = f t := h
    rw [h', ← ha.2.2 t]
    rfl
  | cell ad T =>
    obtain ⟨b, o, cs, h1, ⟨d, hd⟩, h2, h3⟩ := h
    have e := ha.2.2 ad
    rw [h1] at e
    simp only [rdv, e]
    have hl := run_loadCells_list (P := P) w (⟨b, o, none⟩ : Addr) cs (fun j u hj => by rw [add_spotless]; exact h2 j u hj)
    rcases h3 with ⟨hb, ⟨by', z, ht⟩, rfl⟩ | ⟨hb, rfl⟩
    · obtain ⟨i, hi, _, hs, _⟩ := ht.ex
      simp [asAddr, loadVar, run_isAgg hd, hb, sizeOf, typeInfo, hi, hs, hl]
    have hc := h2 0 v rfl
    simp only [Nat.add_zero] at hc
    simp [asAddr, loadVar, run_isAgg hd, hb, load, Sem.run, hc]
theorem run_rets {a : Act} (ha : Fm n f a) : ∀ {rs : List ResultVar} {vs : List Value}, Rets P f w rs vs →
    (rs.mapM (rdv a.tmps)).run P w = .ok vs w
  | [], [], _ => by simp
  | r :: rs, v :: vs, h => by
    have h1 := run_res1 ha h.1
    have h2 := run_rets ha h.2
    rw [List.mapM_cons]
    simp only [Sem.run_bind, h1, h2, Result.andThen_ok, Sem.run_pure]
  | [], _ :: _, h => h.elim
  | _ :: _, [], h => h.elim
theorem calls_of {k : FuncId} {fn : Func} {c : Code} {args : Array Value} {rs : List ResultVar} {R : Value → World → Prop} (hf : P.funcs[k]? = some fn) (hb : fn.body = some c) (hn : fn.ntmps = n) (hr : fn.results = rs.toArray) (hsz : args.size ≤ n)
    (h : WP P n c ⟨fun f w => ∃ vs, Rets P f w rs vs ∧ R (retv vs) w, fun _ _ _ => False, fun f w => ∃ vs, Rets P f w rs vs ∧ R (retv vs) w⟩ (fun i => args.getD i undef) w) :
    Calls P k args w fun e w' => ∃ v, e = .returned v ∧ R v w' := by
  have ha0 : Fm n (fun i => args.getD i undef) { tmps := args ++ Array.replicate (fn.ntmps - args.size) undef, defers := [] } := by
    refine ⟨rfl, by simp [hn]; omega, fun i => ?_⟩
    by_cases h1 : i < args.size
    · simp [Array.getD, h1, Array.getElem_append_left, Nat.lt_of_lt_of_le h1 (Nat.le_add_right _ _)]
    by_cases h2 : i < n
    · have h3 : i < args.size + (fn.ntmps - args.size) := by omega
      simp only [Array.getD, Array.size_append, Array.size_replicate, h3, h1, dite_true, dite_false]
      simp [Array.getElem_append, h1]
    have h3 : ¬ i < args.size + (fn.ntmps - args.size) := by omega
    simp only [Array.getD, Array.size_append, Array.size_replicate, h3, h1, dite_false]
  have fin : ∀ (a : Act) (f : Nat → Value) (w : World), Fm n f a → (∃ vs, Rets P f w rs vs ∧ R (retv vs) w) → a.defers = [] ∧ ∃ v, (results fn a.tmps).run P w = .ok v w ∧ ∃ u, Ending.returned v = .returned u ∧ R u w := by
    intro a f w ha ⟨vs, hv, hR⟩
    refine ⟨ha.1, retv vs, ?_, _, rfl, hR⟩
    have h1 := run_rets ha hv
    have e : results fn a.tmps = (do let vs ← fn.results.mapM (rdv a.tmps); pure (if h : vs.size = 1 then vs[0] else .tuple vs)) := rfl
    rw [e, hr, List.mapM_toArray]
    simp only [Sem.run_bind, Sem.run_map, h1, Result.andThen_ok, Sem.run_pure]
    congr 1
    match vs with
    | [] => rfl
    | [v] => rfl
    | v :: u :: vs => simp [retv]
  refine calls_of_wp hf hb (wp_mono (h _ ha0) fun e a w hq => ?_)
  cases e with
  | normal => obtain ⟨f, hf, hh⟩ := hq; exact fin a f w hf hh
  | ret => obtain ⟨f, hf, hh⟩ := hq; exact fin a f w hf hh
  | exit i => obtain ⟨f, hf, hh⟩ := hq; exact hh.elim
  | goto l => exact hq.elim
  | panic c => exact hq.elim
  | outgrown => exact hq.elim
theorem wset {c : Code} {Q : Po} (h : ∀ F, (∀ i, F i = f i) → WP P n c Q F w) : WP P n c Q f w := h f fun _ => rfl
end calls
def rg : Nat → Nat → List Nat → List Nat
  | _, 0, l => l
  | a, n + 1, l => a :: rg (a + 1) n l
def Off (M : List Nat) (F f : Nat → Value) : Prop := ∀ i, M.contains i = false → f i = F i
theorem Off.refl (M : List Nat) (F : Nat → Value) : Off M F F := fun _ _ => rfl
theorem Off.st {M : List Nat} {F f : Nat → Value} (h : Off M F f) {d : Nat} (hd : M.contains d = true) (v : Value) : Off M F (st f d v) := fun i hi => by
  have hne : i ≠ d := fun e => by subst e; rw [hd] at hi; cases hi
  rw [st_other _ _ _ _ hne]
  exact h i hi
theorem Off.eq {M : List Nat} {G F f : Nat → Value} (hF : ∀ i, F i = f i) (h : Off M G f) : Off M G F := fun i hi => (hF i).trans (h i hi)
theorem Off.via {M M' : List Nat} {G F f : Nat → Value} (h' : Off M' F f) (hM : (M'.all fun i => M.contains i) = true) (h : Off M G F) : Off M G f := fun i hi => by
  refine (h' i ?_).trans (h i hi)
  cases hc : M'.contains i with
  | false => rfl
  | true =>
    have := List.all_eq_true.1 hM i (by simpa using hc)
    rw [this] at hi
    cases hi
theorem int_eq {k : IntKind} {a b : Int} (h : a = b) : Value.int k a = .int k b := by rw [h]
theorem bool_eq {a b : Bool} (h : a = b) : Value.bool a = .bool b := by rw [h]
end Go.Vg
namespace Go.Vg
open Go.RowKit
theorem madeCells_one (z : Value) (n : Nat) (h : z.cells = #[z]) : (madeCells z.cells n).toList = List.replicate n z := by
  rw [h]
  apply List.ext_getElem
  · simp [madeCells]
  intro i h1 h2
  simp [madeCells, Nat.mod_one]
theorem made_flat (z : Array Value) (n : Nat) : (madeCells z (n * z.size)).toList = (List.replicate n z.toList).flatten := by
  induction n with
  | zero => simp [madeCells]
  | succ n ih =>
    rw [List.replicate_succ', List.flatten_append, ← ih]
    apply List.ext_getElem
    · simp [madeCells, Nat.add_mul]
    intro i h1 h2
    simp only [madeCells, Array.toList_map, Array.toList_range, List.getElem_map, List.getElem_range, List.flatten_cons, List.flatten_nil, List.append_nil] at *
    by_cases hi : i < n * z.size
    · rw [List.getElem_append_left (by simpa using hi)]
      simp
    rw [List.getElem_append_right (by simpa using hi)]
    simp only [List.length_map, List.length_range]
    have h3 : i < n * z.size + z.size := by simpa [madeCells, Nat.add_mul] using h1
    have h4 : i % z.size = i - n * z.size := by
      obtain ⟨k, rfl⟩ : ∃ k, i = n * z.size + k := ⟨i - n * z.size, by omega⟩
      rw [Nat.mul_comm, Nat.mul_add_mod, Nat.mod_eq_of_lt oM]
      omega
    rw [h4, getElem!_pos z (i - n * z.size) oM]
    simp
theorem cast_room {b n : Nat} (h : b * n ≤ 281474976710656) : (b : Int) * (n : Int) ≤ 281474976710656 := by
  have : ((b * n : Nat) : Int) ≤ 281474976710656 := by omega
  rwa [Int.natCast_mul] at this
section heavy
variable {P : Program} {f : Nat → Value} {w : World} {dst : Option Tmp} {ty : TypeId} {pos : String} {aft : Array Edge} {g : Option (Nat × Bool)} {x y z : Operand} {t t' e : TypeId} {D : Nat → TypeId → Prop}
theorem h_make1 {k k' : IntKind} {n : Nat} {zz : Value} {bytes : Nat} (hu : P.underlying t = some (.slice e)) (ht : TyI P e 1 bytes zz) (hz : zz.cells = #[zz]) (hx : ev f x = .int k (n : Int)) (hy : ev f y = .int k' (n : Int)) (hb : bytes * n ≤ 281474976710656) (h63 : n ≤ 9223372036854775807) :
    Run P f ⟨dst, .makeSlice t x y, ty, pos, aft, g⟩ w fun v w' => ∃ b, v = .slice (some ⟨b, 0, none⟩) n n ∧ Mk w e (List.replicate n zz) b w' := by
  obtain ⟨i, hi, hzi, hs, hby⟩ := ht.ex
  have hr := run_make (P := P) w t e i zz hu hi hzi k k' n n oM (Int.le_refl _) (by rw [hby]; exact cast_room hb) oM
  simp only [Int.toNat_natCast, hs, Nat.mul_one] at hr
  refine ⟨.slice (some ⟨w.heap.size, 0, none⟩) n n, w.alloc (.cells (madeCells zz.cells n) e), by simp only [execOp, hx, hy, Sem.run_bind, hr, Result.andThen_ok, Sem.run_pure], _, rfl, rfl, ?_, ext_alloc w _⟩
  have h := bk_alloc w e (List.replicate n zz)
  rw [← madeCells_one zz n hz] at h ⊢
  simpa using h
theorem h_make {k k' : IntKind} {n c : Nat} {zz : Value} {size bytes : Nat} (hu : P.underlying t = some (.slice e)) (ht : TyI P e size bytes zz) (hz : zz.cells.size = size) (hx : ev f x = .int k (n : Int)) (hy : ev f y = .int k' (c : Int)) (hnc : n ≤ c) (hb : bytes * c ≤ 281474976710656) (h63 : c ≤ 9223372036854775807) :
    Run P f ⟨dst, .makeSlice t x y, ty, pos, aft, g⟩ w fun v w' => ∃ b, v = .slice (some ⟨b, 0, none⟩) n c ∧ Mk w e (List.replicate c zz.cells.toList).flatten b w' := by
  obtain ⟨i, hi, hzi, hs, hby⟩ := ht.ex
  have hr := run_make (P := P) w t e i zz hu hi hzi k k' n c oM oM (by rw [hby]; exact cast_room hb) oM
  simp only [Int.toNat_natCast, hs, ← hz] at hr
  refine ⟨.slice (some ⟨w.heap.size, 0, none⟩) n c, w.alloc (.cells (madeCells zz.cells (c * zz.cells.size)) e), by simp only [execOp, hx, hy, Sem.run_bind, hr, Result.andThen_ok, Sem.run_pure], _, rfl, rfl, ?_, ext_alloc w _⟩
  have h := bk_alloc w e (List.replicate c zz.cells.toList).flatten
  rw [← made_flat] at h ⊢
  simpa using h
theorem h_lit {len size bytes : Nat} {zz : Value} {al : List (Nat × Operand)} {vl : List (Nat × Value)} {cs : List Value} (hu : P.underlying t = some (.slice e)) (ht : TyI P e size bytes zz) (ha : al.map (fun p => (p.1, ev f p.2)) = vl) (hbig : len * size ≤ 16777216)
    (hf : Instr.fill (fun i => some (i * size, size)) ((Array.range (len * size)).map ((if len * size = 0 then #[] else zz.cells)[· % (if len * size = 0 then #[] else zz.cells).size]!)) vl = some cs.toArray) :
    Run P f ⟨dst, .buildSlice t len al.toArray, ty, pos, aft, g⟩ w fun v w' => ∃ b, v = .slice (some ⟨b, 0, none⟩) len len ∧ Mk w e cs b w' := by
  obtain ⟨i, hi, hzi, hs, hby⟩ := ht.ex
  subst ha
  have hn : ¬ (16777216 < len * size) := by omega
  refine ⟨.slice (some ⟨w.heap.size, 0, none⟩) len len, w.alloc (.cells cs.toArray e), ?_, _, rfl, rfl, bk_alloc w e cs, ext_alloc w _⟩
  by_cases h0 : len * size = 0
  · simp only [h0, if_true] at hf
    simp [execOp, Instr.buildSlice, run_underlying hu, sizeOf, typeInfo, hi, hs, h0, newRow]
    try simp at hf
    simp [hf]
  simp only [h0, if_false] at hf
  simp [execOp, Instr.buildSlice, run_underlying hu, sizeOf, typeInfo, hi, hs, h0, hn, zeroValue, hzi, newRow]
  try simp at hf
  simp [hf]
theorem r_build {al : List (Nat × Operand)} {vl : List (Nat × Value)} {fs : Array Field} {pl : Array (Nat × Nat)} {zz : Value} {size bytes : Nat} {cs : List Value} (hu : P.underlying t = some (.struct fs)) (ht : TyI P t size bytes zz) (ha : al.map (fun p => (p.1, ev f p.2)) = vl)
    (hp : ∀ w, (fs.mapM fun (fl : Field) => (do pure (fl.offset, ← sizeOf fl.type) : Sem (Nat × Nat))).run P w = .ok pl w) (hf : Instr.fill (pl[·]?) zz.cells vl = some cs.toArray) :
    (execOp (ev f) ⟨dst, .build t al.toArray, ty, pos, aft, g⟩).run P w = .ok (.value (.agg cs.toArray)) w := by
  obtain ⟨i, hi, hzi, hs, hby⟩ := ht.ex
  subst ha
  have hzv : (zeroValue t).run P w = .ok zz w := by simp [zeroValue, typeInfo, hi, hzi]
  simp only [execOp, Instr.build, Sem.run_bind, hzv, Result.andThen_ok, run_underlying hu, hp, List.map_toArray]
  rw [hf]
  simp
/-! append onto a slice of one's own -/
abbrev Ow (w : World) (lo : Nat) (e : TypeId) (size : Nat) (v : Value) (n : Nat) (l : List Value) : Prop := w.ownsRow lo e size v n l
theorem Ow.sc {lo size n : Nat} {v : Value} {l : List Value} (h : Ow w lo e size v n l) (hD : ∀ b, lo ≤ b → D b e) : Sc D w size v n l := by
  obtain ⟨h1, h2⟩ := h
  rcases h2 with ⟨rfl, rfl⟩ | ⟨b, cap, cur, rfl, hb, hh, hc, hm, hs, ht⟩
  · exact ⟨none, 0, rfl, Nat.le_refl _, by simp [maxLen], h1, .inl (List.eq_nil_of_length_eq_zero (by simpa using h1))⟩
  refine ⟨some ⟨b, 0, none⟩, cap, rfl, hc, hm, h1, .inr ⟨b, 0, rfl, .inr ⟨cur, e, (0, 0), hh, hD b hb, fun j u hj => ?_⟩⟩⟩
  rw [← ht, List.getElem?_take] at hj
  split at hj
  · simpa using hj
  cases hj
theorem Ow.sm {w' : World} {lo size n : Nat} {v : Value} {l : List Value} (h : Ow w lo e size v n l) (hg : w.grownBy w' v.ownBlock) (hD : ∀ b, lo ≤ b → ¬ D b e) : Sm D w w' := by
  intro b cs T fz hh hd
  refine (hg.block b (lt_of_heap hh) (fun he => ?_)).trans hh
  rcases h.2 with ⟨rfl, _⟩ | ⟨b', cap, cur, rfl, hb, hh', _⟩
  · simp [Value.ownBlock] at he
  simp [Value.ownBlock] at he
  subst he
  rw [hh'] at hh
  injection hh with hh
  injection hh with _ hT _
  subst hT
  exact hD _ hb hd
theorem Ow.bk {w' : World} {lo size n b : Nat} {T : TypeId} {v : Value} {l l' : List Value} (h : Ow w lo e size v n l) (hg : w.grownBy w' v.ownBlock) (hb : Bk w b T l') (hne : b < lo ∨ T ≠ e) : Bk w' b T l' := by
  refine (hg.block b hb.lt (fun he => ?_)).trans hb
  rcases h.2 with ⟨rfl, _⟩ | ⟨b', cap, cur, rfl, hlo, hh', _⟩
  · simp [Value.ownBlock] at he
  simp [Value.ownBlock] at he
  subst he
  rcases hne with h | h
  · omega
  unfold Bk at hb
  rw [hh'] at hb
  injection hb with hb
  injection hb with _ hT _
  exact h hT.symm
theorem Ow.below {w0 w' : World} {B lo size n : Nat} {v : Value} {l : List Value} (h : Ow w lo e size v n l) (hg : w.grownBy w' v.ownBlock) (hE : Below B w0 w) (hB : B ≤ lo) (hs : B ≤ w.heap.size) : Below B w0 w' :=
  hE.grown hg hs (fun k hk => by have := h.lt k hk; omega)
theorem Ow.ext {w' : World} {lo size n : Nat} {v : Value} {l : List Value} (h : Ow w lo e size v n l) (hE : Ext w w') : Ow w' lo e size v n l :=
  h.kept (row := none) ⟨hE.os, hE.tape, hE.output, hE.size, fun k hk _ => hE.block k hk⟩ (by cases hv : v.ownBlock <;> simp)
theorem Ow.exc {w' : World} {lo size n b0 : Nat} {v : Value} {l l0 : List Value} {T0 : TypeId} (h : Ow w lo e size v n l) (hE : Exc b0 w w') (hb : Bk w b0 T0 l0) (hne : b0 < lo ∨ T0 ≠ e) : Ow w' lo e size v n l := by
  refine h.kept (row := some b0) ⟨hE.os, hE.tape, hE.output, hE.size, fun k hk hne => hE.block k hk (fun he => hne (by rw [he]))⟩ ?_
  rcases h.2 with ⟨rfl, _⟩ | ⟨b', cap, cur, rfl, hlo, hh', _⟩
  · exact .inl rfl
  right
  simp only [Value.ownBlock]
  intro he
  injection he with he
  subst he
  rcases hne with h | h
  · omega
  unfold Bk at hb
  rw [hh'] at hb
  injection hb with hb
  injection hb with _ hT _
  exact h hT.symm
theorem Ow.mono {lo lo' size n : Nat} {v : Value} {l : List Value} (h : Ow w lo e size v n l) (hl : lo' ≤ lo) : Ow w lo' e size v n l := by
  refine ⟨h.1, h.2.imp id ?_⟩
  rintro ⟨b, cap, cur, h1, h2, h3⟩
  exact ⟨b, cap, cur, h1, by omega, h3⟩
theorem Ow.made {lo b n size : Nat} {l : List Value} (hb : Bk w b e l) (hlo : lo ≤ b) (hn : l.length = n * size) (hm : n ≤ maxLen) : Ow w lo e size (.slice (some ⟨b, 0, none⟩) n n) n l :=
  ⟨hn, .inr ⟨b, n, l.toArray, rfl, hlo, hb, Nat.le_refl _, hm, by simpa using hn, by simp [← hn]⟩⟩
theorem Ow.room {lo b c size : Nat} {l : List Value} (hb : Bk w b e l) (hlo : lo ≤ b) (hn : l.length = c * size) (hm : c ≤ maxLen) : Ow w lo e size (.slice (some ⟨b, 0, none⟩) 0 c) 0 [] :=
  ⟨by simp, .inr ⟨b, c, l.toArray, rfl, hlo, hb, Nat.zero_le _, hm, by simpa using hn, by simp⟩⟩
theorem Ow.nil (lo size : Nat) : Ow w lo e size (.slice none 0 0) 0 [] := ⟨by simp, .inl ⟨rfl, rfl⟩⟩
theorem h_append {lo size bytes n m : Nat} {zz v1 v2 : Value} {l news : List Value} (hu : P.underlying t = some (.slice e)) (ht : TyI P e size bytes zz) (hz : zz.cells.size = size) (hsz : 0 < size) (hx : ev f x = v1) (hy : ev f y = v2)
    (ho : Ow w lo e size v1 n l) (hs : Sc D w size v2 m news) (h1 : ∀ u ∈ news, u.oneCell' = true) (h63 : n + m ≤ maxLen) (hby : (n + m) * bytes ≤ 140737488355328) (hlo : lo ≤ w.heap.size) :
    Run P f ⟨dst, .call ⟨.builtin .append, #[x, y], #[t, t]⟩, ty, pos, aft, g⟩ w fun v w' => Ow w' lo e size v (n + m) (l ++ news) ∧ w.grownBy w' v1.ownBlock := by
  obtain ⟨i, hi, hzi, hsi, hbi⟩ := ht.ex
  obtain ⟨A, c, rfl, hmc, hcm, hl, hA⟩ := hs
  have key : ∃ v' w', (Builtin.append_ #[t, t] ty #[v1, .slice A m c]).run P w = .ok v' w' ∧ w'.ownsRow lo e size v' (n + m) (l ++ news) ∧ w.grownBy w' v1.ownBlock := by
    rcases hA with rfl | ⟨b, o, rfl, hrd⟩
    · have hm : m = 0 := by
        rcases Nat.eq_zero_or_pos m with h | h
        · exact h
        exact absurd hl.symm (by have := Nat.mul_pos h hsz; simp; omega)
      subst hm
      cases A with
      | none =>
        refine ⟨v1, w, ?_, by simpa using ho, ⟨rfl, rfl, rfl, Nat.le_refl _, fun _ _ _ => rfl⟩⟩
        rcases ho.2 with ⟨rfl, rfl⟩ | ⟨b, cap, cur, rfl, _, _, hnc, _⟩
        · simp [Builtin.append_, run_underlying hu, sizeOf, typeInfo, hi, Builtin.lenOf, Builtin.firstCells]
        simp [Builtin.append_, run_underlying hu, sizeOf, typeInfo, hi, Builtin.lenOf, Builtin.firstCells, hnc, storeCells]
      | some ad =>
        obtain ⟨v', w', h1, h2, h3, _⟩ := run_append_own_at (P := P) w lo t ty e i zz size bytes hu hi hzi hsi hbi hz hsz v1 n l ho ad 0 c [] (by simp) (by simp) (by simp) (by simpa using h63) (by simpa using hby) hlo
        exact ⟨v', w', h1, h2, h3⟩
    obtain ⟨v', w', h1, h2, h3, _⟩ := run_append_own_at (P := P) w lo t ty e i zz size bytes hu hi hzi hsi hbi hz hsz v1 n l ho ⟨b, o, none⟩ m c news hl (fun j u hj => by rw [add_spotless]; exact hrd.cell hj) h1 h63 hby hlo
    exact ⟨v', w', h1, h2, h3⟩
  obtain ⟨v', w', h2, h3, h4⟩ := key
  exact ⟨v', w', by simp [execOp, resolve, invoke, builtin, hx, hy, h2], h3, h4⟩
theorem h_copy {b o dl dc n m size bytes : Nat} {zz v2 : Value} {l cs : List Value} (hu : P.underlying t = some (.slice e)) (ht : TyI P e size bytes zz) (hx : ev f x = .slice (some ⟨b, o, none⟩) dl dc) (hy : ev f y = v2)
    (hb : Bk w b e l) (hs : Sc D w size v2 m cs) (hm : m ≤ dl) (hn : n = m) (h1 : ∀ u ∈ cs, u.oneCell' = true) (hfit : o + cs.length ≤ l.length) :
    Run P f ⟨dst, .call ⟨.builtin .copy, #[x, y], #[t, t']⟩, ty, pos, aft, g⟩ w fun v w' => v = .int .i64 n ∧ Bk w' b e (spl l o cs) ∧ Exc b w w' := by
  obtain ⟨i, hi, hzi, hsi, hbi⟩ := ht.ex
  obtain ⟨A, c, rfl, hmc, hcm, hl, hA⟩ := hs
  subst hn
  have hmin : min n dl = n := Nat.min_eq_left hm
  refine ⟨.int .i64 n, w.setRow b (spl l o cs).toArray, ?_, rfl, setRow_heap w b l.toArray _ e (0, 0) hb, exc_setRow _ _ _⟩
  have hst := run_storeCells_at P b o e cs 0 l.toArray w hb (by simpa using hfit) h1
  simp only [Nat.add_zero] at hst
  have hfc : (Builtin.firstCells size n (.slice A n c)).run P w = .ok cs.toArray w := by
    rcases hA with rfl | ⟨b', o', rfl, hrd⟩
    · cases A with
      | none => simp [Builtin.firstCells]
      | some ad =>
        have := run_loadCells_list (P := P) w ad [] (by simp)
        simp only [Builtin.firstCells, ← hl]
        simpa using this
    have := run_loadCells_list (P := P) w ⟨b', o', none⟩ cs (fun j u hj => by rw [add_spotless]; exact hrd.cell hj)
    simp only [Builtin.firstCells, ← hl]
    exact this
  simp [execOp, resolve, invoke, builtin, Builtin.copy_, hx, hy, run_underlying hu, Builtin.lenOf, sizeOf, typeInfo, hi, hsi, hmin, hfc, hst, goInt, spl]
end heavy
end Go.Vg
namespace Go.Vg
open Go.RowKit
def Sg {α : Type} (g : α → Value) (D : Nat → TypeId → Prop) (w : World) (v : Value) (xs : List α) : Prop := Sc D w 1 v xs.length (xs.map g)
def Ar {α : Type} (g : α → Value) (w : World) (b : Nat) (T : TypeId) (o : Nat) (xs : List α) (n : Nat) : Prop := (∃ pre post, pre.length = o ∧ Bk w b T (pre ++ xs.map g ++ post)) ∧ xs.length = n
abbrev gI (k : IntKind) : Int → Value := fun z => .int k z
abbrev gN (k : IntKind) : Nat → Value := fun z => .int k (z : Int)
abbrev gB : Bool → Value := fun b => .bool b
section
variable {α : Type} {g : α → Value} {D D' : Nat → TypeId → Prop} {w w' : World} {v : Value} {xs : List α} {b n : Nat} {T : TypeId}
theorem Sg.tr (h : Sg g D w v xs) (hs : Sm D w w') : Sg g D w' v xs := Sc.tr h hs
theorem Sg.mono (h : Sg g D w v xs) (hD : ∀ b T, D b T → D' b T) : Sg g D' w v xs := Sc.mono h hD
theorem Sg.nil : Sg g D w (.slice none 0 0) [] := Sc.nil
theorem Sg.len (h : Sg g D w v xs) : ∃ A c, v = .slice A xs.length c ∧ xs.length ≤ c ∧ c ≤ 9223372036854775807 := by
  obtain ⟨A, c, rfl, h1, h2, _⟩ := h
  exact ⟨A, c, rfl, h1, by simpa [maxLen] using h2⟩
theorem Sg.ix [Inhabited α] (h : Sg g D w v xs) {i : Int} (k : Nat) (hi : i = (k : Int)) (hk : k < xs.length) :
    ∃ bb o c, v = .slice (some ⟨bb, o, none⟩) xs.length c ∧ w.cell? ⟨bb, o + i.toNat * 1, none⟩ = some (g (xs.getD k default)) := by
  obtain ⟨A, c, rfl, h1, h2, h3, h4⟩ := h
  subst hi
  rcases h4 with h4 | ⟨bb, o, rfl, hr⟩
  · have : xs = [] := List.map_eq_nil_iff.1 h4
    subst this
    simp at hk
  refine ⟨bb, o, c, rfl, ?_⟩
  have := hr.cell (j := k) (u := g (xs.getD k default)) (by simp [hk])
  simpa using this
theorem Sg.take (h : Sg g D w v xs) (k : Nat) (hk : k ≤ xs.length) {A : Option Addr} {m c : Nat} (hv : v = .slice A m c) : Sg g D w (.slice A k c) (xs.take k) := by
  obtain ⟨A', c', rfl, h1, h2, h3, h4⟩ := h
  injection hv with e1 e2 e3
  subst e1 e2 e3
  have hl : (xs.take k).length = k := by simp [hk]
  refine ⟨A', c', by rw [hl], by omega, h2, by simp, ?_⟩
  rcases h4 with h4 | ⟨bb, o, rfl, hr⟩
  · have : xs = [] := List.map_eq_nil_iff.1 h4
    subst this
    exact .inl (by simp)
  exact .inr ⟨bb, o, rfl, by rw [List.map_take]; exact hr.take k⟩
theorem Sg.drop (h : Sg g D w v xs) (k : Nat) (hk : k ≤ xs.length) {A : Option Addr} {m c : Nat} (hv : v = .slice A m c) : Sg g D w (.slice (if c = k then A else A.map (·.add (k * 1))) (m - k) (c - k)) (xs.drop k) := by
  obtain ⟨A', c', rfl, h1, h2, h3, h4⟩ := h
  injection hv with e1 e2 e3
  subst e1 e2 e3
  have hl : (xs.drop k).length = xs.length - k := by simp
  refine ⟨_, _, by rw [hl], by omega, by omega, by simp, ?_⟩
  by_cases hx : xs.drop k = []
  · exact .inl (by rw [hx]; rfl)
  rcases h4 with h4 | ⟨bb, o, rfl, hr⟩
  · have : xs = [] := List.map_eq_nil_iff.1 h4
    subst this
    exact absurd (by simp) hx
  have hlt : k < xs.length := by
    rcases Nat.lt_or_ge k xs.length with h | h
    · exact h
    exact absurd (List.drop_of_length_le h) hx
  rw [if_neg oM]
  refine .inr ⟨bb, o + k, ?_, by rw [List.map_drop]; exact hr.drop k⟩
  simp [add_spotless]
theorem Ar.ext {o : Nat} (h : Ar g w b T o xs n) (e : Ext w w') : Ar g w' b T o xs n := by
  obtain ⟨⟨pre, post, h1, h2⟩, h3⟩ := h
  exact ⟨⟨pre, post, h1, h2.ext e⟩, h3⟩
theorem Ar.exc {o b0 : Nat} (h : Ar g w b T o xs n) (e : Exc b0 w w') (hne : b ≠ b0) : Ar g w' b T o xs n := by
  obtain ⟨⟨pre, post, h1, h2⟩, h3⟩ := h
  exact ⟨⟨pre, post, h1, h2.exc e hne⟩, h3⟩
theorem Ar.lt {o : Nat} (h : Ar g w b T o xs n) : b < w.heap.size := by
  obtain ⟨⟨pre, post, h1, h2⟩, h3⟩ := h
  exact h2.lt
theorem Ar.cell [Inhabited α] {o : Nat} (h : Ar g w b T o xs n) {i : Int} (k : Nat) (hi : i = (k : Int)) (hk : k < n) : w.cell? ⟨b, o + i.toNat * 1, none⟩ = some (g (xs.getD k default)) := by
  obtain ⟨⟨pre, post, h1, h2⟩, h3⟩ := h
  subst hi h1
  have hk' : k < xs.length := by rw [h3]; exact hk
  refine h2.cell (j := pre.length + (k : Int).toNat * 1) ?_
  rw [Int.toNat_natCast, Nat.mul_one, List.append_assoc, List.getElem?_append_right oM]
  rw [Nat.add_sub_cancel_left, List.getElem?_append_left (by simpa using hk')]
  simp [hk']
theorem Ar.sc {o c : Nat} (h : Ar g w b T o xs n) (hc : n ≤ c) (hm : c ≤ 9223372036854775807) (hd : D b T) : Sg g D w (.slice (some ⟨b, o, none⟩) n c) xs := by
  obtain ⟨⟨pre, post, h1, h2⟩, h3⟩ := h
  refine ⟨_, c, by rw [h3], by rw [h3]; exact hc, by simpa [maxLen] using hm, by simp, .inr ⟨b, o, rfl, .inr ⟨_, T, (0, 0), h2, hd, fun j u hj => ?_⟩⟩⟩
  subst h1
  have hj' : j < (xs.map g).length := by
    rcases Nat.lt_or_ge j (xs.map g).length with h | h
    · exact h
    rw [List.getElem?_eq_none h] at hj; cases hj
  simp only [List.getElem?_toArray]
  rw [List.append_assoc, List.getElem?_append_right oM, Nat.add_sub_cancel_left, List.getElem?_append_left hj']
  exact hj
theorem Ar.sm {o : Nat} (h : Ar g w b T o xs n) (e : Exc b w w') (hD : ¬ D b T) : Sm D w w' := by
  obtain ⟨⟨pre, post, h1, h2⟩, h3⟩ := h
  exact h2.sm e hD
theorem Ar.made {z : α} {zz : Value} (hb : Bk w b T (List.replicate n zz)) (hz : g z = zz) : Ar g w b T 0 (List.replicate n z) n := ⟨⟨[], [], rfl, by rw [List.map_replicate, hz]; simpa using hb⟩, by simp⟩
theorem Ar.bk {o : Nat} (h : Ar g w b T o xs n) : ∃ l, Bk w b T l := by
  obtain ⟨⟨pre, post, h1, h2⟩, h3⟩ := h
  exact ⟨_, h2⟩
theorem Ar.tail {o : Nat} (h : Ar g w b T o xs n) (k : Nat) (hk : k ≤ n) : Ar g w b T (o + k) (xs.drop k) (n - k) := by
  obtain ⟨⟨pre, post, h1, h2⟩, h3⟩ := h
  refine ⟨⟨pre ++ (xs.take k).map g, post, by simp; omega, ?_⟩, by simp; omega⟩
  have e : pre ++ (xs.take k).map g ++ (xs.drop k).map g ++ post = pre ++ xs.map g ++ post := by
    rw [List.append_assoc pre, ← List.map_append, List.take_append_drop]
  rw [e]
  exact h2
end
section
variable {P : Program} {f : Nat → Value} {w : World} {dst : Option Tmp} {ty : TypeId} {pos : String} {aft : Array Edge} {gd : Option (Nat × Bool)} {x y z : Operand} {t e : TypeId}
theorem spl_set {α : Type} (g : α → Value) (pre post : List Value) (xs : List α) (k : Nat) (u : α) (hk : k < xs.length) : spl (pre ++ xs.map g ++ post) (pre.length + k * 1) [g u] = pre ++ (xs.set k u).map g ++ post := by
  unfold spl
  rw [List.map_set, List.set_eq_take_append_cons_drop]
  rw [if_pos (by simpa using hk), Nat.mul_one]
  rw [List.append_assoc pre, List.take_append, List.drop_append]
  have e1 : pre.take (pre.length + k) = pre := List.take_of_length_le oM
  have e2 : pre.drop (pre.length + k + [g u].length) = [] := List.drop_of_length_le (by simp; omega)
  have e3 : pre.length + k - pre.length = k := by omega
  have e4 : pre.length + k + [g u].length - pre.length = k + 1 := by simp; omega
  rw [e1, e2, e3, e4, List.take_append_of_le_length (by simp; omega), List.drop_append_of_le_length (by simp; omega)]
  simp
theorem h_set {α : Type} {g : α → Value} {T : TypeId} {b o n bytes : Nat} {xs : List α} {u : α} {i : Int} {vv zz : Value} (ht : TyI P t 1 bytes zz) (hx : ev f x = .pointer (some ⟨b, o + i.toNat * 1, none⟩)) (hy : ev f y = vv) (hv : vv = g u) (hc : (g u).cells = #[g u]) (h1 : (g u).oneCell' = true)
    (ha : Ar g w b T o xs n) (k : Nat) (hi : i = (k : Int)) (hk : k < n) :
    RunS P f ⟨dst, .store t x y, ty, pos, aft, gd⟩ w fun w' => Ar g w' b T o (xs.set k u) n ∧ Exc b w w' := by
  obtain ⟨⟨pre, post, h2, h3⟩, h4⟩ := ha
  subst hi hv h2
  have hk' : k < xs.length := by rw [h4]; exact hk
  obtain ⟨w', hr, h5, h6, _⟩ := h_store (P := P) (f := f) (dst := dst) (ty := ty) (pos := pos) (aft := aft) (g := gd) (cs := [g u]) ht hx hy hc rfl (by simpa using h1) h3 (by simp; omega)
  refine ⟨w', hr, ⟨⟨pre, post, rfl, ?_⟩, by simpa using h4⟩, h6⟩
  have e : ((k : Int)).toNat = k := Int.toNat_natCast k
  rw [e, spl_set g pre post xs k u hk'] at h5
  exact h5
end
end Go.Vg
namespace Go.Vg
theorem Ent.of {P : Program} {k : FuncId} {fn : Func} (hf : P.funcs[k]? = some fn) (hb : fn.body.isNone = false) (hn : (fn.name == "runtime.NumGoroutine") = false) : Ent P k := fun args w => by
  unfold callFunc
  simp only [Sem.run_bind]
  rw [show (program).run P w = .ok P w from rfl]
  simp only [Result.andThen_ok, hf, hn, hb, Bool.false_eq_true, if_false, Sem.run_pure]
theorem Bk.cells {w : World} {b : Nat} {T : TypeId} {l : List Value} (h : Bk w b T l) {o : Nat} {cs : List Value} (hc : (l.drop o).take cs.length = cs) : ∀ j u, cs[j]? = some u → w.cell? ⟨b, o + j, none⟩ = some u := fun j u hj => by
  refine h.cell ?_
  rw [← hc, List.getElem?_take] at hj
  split at hj
  · rwa [List.getElem?_drop] at hj
  cases hj
end Go.Vg
namespace Go.Vg
theorem cell_ext {w u : World} {p : Addr} {v : Value} (hu : Ext w u) (h : w.cell? p = some v) : u.cell? p = some v := (hu.cell (World.block_lt_of_cell? w p h)).trans h
end Go.Vg
namespace Go.Vg
open Go.RowKit
def Ss {α : Type} (c : α → List Value) (size : Nat) (D : Nat → TypeId → Prop) (w : World) (v : Value) (xs : List α) : Prop :=
  (0 < size ∧ ∀ x ∈ xs, (c x).length = size) ∧ Sc D w size v xs.length (xs.map c).flatten
section
variable {α : Type} {c : α → List Value} {size : Nat} {D D' : Nat → TypeId → Prop} {w w' : World} {v : Value} {xs : List α}
theorem Ss.tr (h : Ss c size D w v xs) (hs : Sm D w w') : Ss c size D w' v xs := ⟨h.1, h.2.tr hs⟩
theorem Ss.mono (h : Ss c size D w v xs) (hD : ∀ b T, D b T → D' b T) : Ss c size D' w v xs := ⟨h.1, h.2.mono hD⟩
theorem Ss.nil (hs : 0 < size) : Ss c size D w (.slice none 0 0) [] := ⟨⟨hs, by simp⟩, Sc.nil⟩
theorem Ss.len (h : Ss c size D w v xs) : ∃ A cap, v = .slice A xs.length cap ∧ xs.length ≤ cap ∧ cap ≤ 9223372036854775807 := by
  obtain ⟨A, cap, rfl, h1, h2, _⟩ := h.2
  exact ⟨A, cap, rfl, h1, by simpa [maxLen] using h2⟩
theorem flat_at {xs : List α} (hc : ∀ x ∈ xs, (c x).length = size) {k j : Nat} {x : α} {u : Value} (hk : xs[k]? = some x) (hj : (c x)[j]? = some u) : (xs.map c).flatten[k * size + j]? = some u := by
  induction xs generalizing k with
  | nil => simp at hk
  | cons y ys ih =>
    have hy : (c y).length = size := hc y (by simp)
    cases k with
    | zero =>
      simp at hk
      subst hk
      have hjl : j < (c y).length := by
        rcases Nat.lt_or_ge j (c y).length with h | h
        · exact h
        rw [List.getElem?_eq_none h] at hj; cases hj
      simp [List.getElem?_append_left hjl, hj]
    | succ k =>
      have hk' : ys[k]? = some x := by simpa using hk
      have := ih (fun z hz => hc z (by simp [hz])) hk'
      simp only [List.map_cons, List.flatten_cons]
      rw [List.getElem?_append_right (by rw [hy, Nat.succ_mul]; omega), hy]
      rw [show (k + 1) * size + j - size = k * size + j by rw [Nat.succ_mul]; omega]
      exact this
theorem Ss.ix [Inhabited α] (h : Ss c size D w v xs) {i : Int} (k : Nat) (hi : i = (k : Int)) (hk : k < xs.length) :
    ∃ bb o cap, v = .slice (some ⟨bb, o, none⟩) xs.length cap ∧ ∀ j u, (c (xs.getD k default))[j]? = some u → w.cell? ⟨bb, o + i.toNat * size + j, none⟩ = some u := by
  obtain ⟨⟨hs, hc⟩, A, cap, rfl, h1, h2, h3, h4⟩ := h
  subst hi
  have hx : xs[k]? = some (xs.getD k default) := by simp [hk]
  rcases h4 with h4 | ⟨bb, o, rfl, hr⟩
  · have hz : xs.length * size = 0 := by rw [← h3, h4]; rfl
    have : xs.length = 0 := by rcases Nat.mul_eq_zero.1 hz with h | h; exact h; omega
    omega
  refine ⟨bb, o, cap, rfl, fun j u hj => ?_⟩
  have := hr.cell (flat_at hc hx hj)
  rw [Int.toNat_natCast, Nat.add_assoc]
  exact this
end
section
variable {P : Program} {f : Nat → Value} {w w' : World} {dst : Option Tmp} {ty : TypeId} {pos : String} {aft : Array Edge} {gd : Option (Nat × Bool)} {x y z : Operand} {t t' e : TypeId} {D : Nat → TypeId → Prop}
theorem Bk.sc {b n size : Nat} {l : List Value} (hb : Bk w b e l) (hd : D b e) (hl : l.length = n * size) (hn : n ≤ 9223372036854775807) : Sc D w size (.slice (some ⟨b, 0, none⟩) n n) n l :=
  ⟨_, n, rfl, Nat.le_refl _, by simpa [maxLen] using hn, hl, .inr ⟨b, 0, rfl, by have := hb.rd (D := D) (m := 0) hd; simpa using this⟩⟩
theorem Ow.ar {α : Type} {g : α → Value} {lo n : Nat} {v : Value} {xs : List α} (h : Ow w lo e 1 v n (xs.map g)) (hn : 0 < n) : ∃ b cap, v = .slice (some ⟨b, 0, none⟩) n cap ∧ lo ≤ b ∧ n ≤ cap ∧ cap ≤ 9223372036854775807 ∧ Ar g w b e 0 xs n := by
  obtain ⟨h1, h2⟩ := h
  rcases h2 with ⟨_, rfl⟩ | ⟨b, cap, cur, rfl, hb, hh, hc, hm, hs, ht⟩
  · omega
  refine ⟨b, cap, rfl, hb, hc, by simpa [maxLen] using hm, ⟨[], cur.toList.drop n, rfl, ?_⟩, by simpa using h1⟩
  unfold Bk
  rw [hh, ← ht]
  simp
end
section
variable {D : Nat → TypeId → Prop} {w : World} {v : Value} {size n : Nat} {l : List Value}
theorem one_nil : ∀ u ∈ ([] : List Value), u.oneCell' = true := fun _ h => by cases h
theorem one_cons {u : Value} {l : List Value} (h : u.oneCell' = true) (hl : ∀ u ∈ l, u.oneCell' = true) : ∀ z ∈ u :: l, z.oneCell' = true := fun z hz => by
  rcases List.mem_cons.1 hz with rfl | hz
  · exact h
  exact hl z hz
theorem Sc.one (h : Sc D w size v n l) : v.oneCell' = true := by
  obtain ⟨A, c, rfl, _⟩ := h
  rfl
theorem Sg.one {α : Type} {g : α → Value} {xs : List α} (h : Sg g D w v xs) : v.oneCell' = true := Sc.one h
theorem Ss.one {α : Type} {c : α → List Value} {xs : List α} (h : Ss c size D w v xs) : v.oneCell' = true := Sc.one h.2
theorem Ow.one {lo : Nat} {e : TypeId} (h : Ow w lo e size v n l) : v.oneCell' = true := by
  rcases h.2 with ⟨rfl, _⟩ | ⟨b, cap, cur, rfl, _⟩ <;> rfl
theorem Ow.len {lo : Nat} {e : TypeId} (h : Ow w lo e size v n l) : ∃ A cap, v = .slice A n cap ∧ n ≤ cap ∧ cap ≤ 9223372036854775807 := by
  rcases h.2 with ⟨rfl, rfl⟩ | ⟨b, cap, cur, rfl, _, _, hc, hm, _⟩
  · exact ⟨none, 0, rfl, Nat.le_refl _, by omega⟩
  exact ⟨_, cap, rfl, hc, by simpa [maxLen] using hm⟩
end
theorem Exc.own {b b1 : Nat} {w0 w w' : World} (h : Exc b w0 w) (k : Exc b1 w w') (hb : w0.heap.size ≤ b1) : Exc b w0 w' :=
  ⟨k.os.trans h.os, k.tape.trans h.tape, k.output.trans h.output, Nat.le_trans h.size k.size, fun i hi hne => (k.block i (Nat.lt_of_lt_of_le hi h.size) oM).trans (h.block i hi hne)⟩
theorem Exc.below {b B : Nat} {w0 w : World} (h : Exc b w0 w) (hb : B ≤ b) (hB : B ≤ w0.heap.size) : Below B w0 w := ⟨h.os, h.tape, h.output, h.size, fun k hk => h.block k oM oM⟩
theorem Exc.ext {b : Nat} {w0 w : World} (h : Exc b w0 w) (hb : w0.heap.size ≤ b) : Ext w0 w := h.below hb (Nat.le_refl _)
section
variable {D : Nat → TypeId → Prop} {w : World} {v : Value} {size n : Nat} {l : List Value}
theorem Sc.old (h : Sc D w size v n l) : Sc (fun b T => D b T ∧ b < w.heap.size) w size v n l := by
  obtain ⟨A, c, rfl, h1, h2, h3, h4⟩ := h
  refine ⟨A, c, rfl, h1, h2, h3, h4.imp id ?_⟩
  rintro ⟨b, o, rfl, hr⟩
  refine ⟨b, o, rfl, ?_⟩
  rcases hr with hr | ⟨cs, T, fz, hh, hd, hc⟩
  · exact .inl hr
  exact .inr ⟨cs, T, fz, hh, ⟨hd, lt_of_heap hh⟩, hc⟩
theorem Sg.old {α : Type} {g : α → Value} {xs : List α} (h : Sg g D w v xs) : Sg g (fun b T => D b T ∧ b < w.heap.size) w v xs := Sc.old h
theorem Ss.old {α : Type} {c : α → List Value} {xs : List α} (h : Ss c size D w v xs) : Ss c size (fun b T => D b T ∧ b < w.heap.size) w v xs := ⟨h.1, Sc.old h.2⟩
end
theorem cells_one {v : Value} (h : v.oneCell' = true) : v.cells = #[v] := by
  cases v <;> first | rfl | (simp [Value.oneCell'] at h)
section
variable {P : Program} {f : Nat → Value} {w : World} {dst : Option Tmp} {ty : TypeId} {pos : String} {aft : Array Edge} {gd : Option (Nat × Bool)} {x y z : Operand} {t e : TypeId}
theorem r_sh {k : IntKind} {A : Option Addr} {n c size bytes kk : Nat} {h : Int} {zz : Value} (hu : P.underlying t = some (.slice e)) (ht : TyI P e size bytes zz) (hx : ev f x = .slice A n c) (hy : ev f y = .int k h) (hk : h = (kk : Int)) (h1 : kk ≤ c) :
    (execOp (ev f) ⟨dst, .slice t x none (some y) none, ty, pos, aft, gd⟩).run P w = .ok (.value (.slice A kk c)) w := by
  have h2 := r_slice_h (P := P) (f := f) (w := w) (dst := dst) (ty := ty) (pos := pos) (aft := aft) (g := gd) hu ht hx hy oM oM
  rw [hk, Int.toNat_natCast] at h2
  exact h2
theorem r_sl {k : IntKind} {A : Option Addr} {n c size bytes kk : Nat} {l : Int} {zz : Value} (hu : P.underlying t = some (.slice e)) (ht : TyI P e size bytes zz) (hx : ev f x = .slice A n c) (hy : ev f y = .int k l) (hk : l = (kk : Int)) (h1 : kk ≤ n) :
    (execOp (ev f) ⟨dst, .slice t x (some y) none none, ty, pos, aft, gd⟩).run P w = .ok (.value (.slice (if c = kk then A else A.map (·.add (kk * size))) (n - kk) (c - kk))) w := by
  have h2 := r_slice_l (P := P) (f := f) (w := w) (dst := dst) (ty := ty) (pos := pos) (aft := aft) (g := gd) hu ht hx hy oM oM
  rw [hk, Int.toNat_natCast] at h2
  exact h2
end
end Go.Vg
namespace Go.Vg
open Go.RowKit
theorem plq {P : Program} {t : TypeId} {fs : Array Field} (h : P.underlying t = some (.struct fs)) (pl : Array (Nat × Nat)) (w : World)
    (e : ((match P.underlying t with | some (.struct fs) => fs | _ => #[]).mapM fun (fl : Field) => (do pure (fl.offset, ← sizeOf fl.type) : Sem (Nat × Nat))).run P w = .ok pl w) : (fs.mapM fun (fl : Field) => (do pure (fl.offset, ← sizeOf fl.type) : Sem (Nat × Nat))).run P w = .ok pl w := by
  rw [h] at e
  exact e
end Go.Vg
namespace Go.Proofs.YtelbjmhhbeijkaaGreat
open Go.Vg _root_.Go.Proofs.Tryz
theorem mixed : Tryz.prog.follows .mixedOrders = true := by kernel_rfl
theorem ty3 : TyI Tryz.prog 3 1 8 (.int .i64 0) := TyI.of kR   -- int
theorem ag3 : aggB Tryz.prog 3 = false := by kernel_rfl
theorem ty4 : TyI Tryz.prog 4 1 1 (.bool false) := TyI.of kR   -- bool
theorem ag4 : aggB Tryz.prog 4 = false := by kernel_rfl
theorem ty22 : TyI Tryz.prog 22 1 24 (.slice none 0 0) := TyI.of kR   -- []api.Entry
theorem ag22 : aggB Tryz.prog 22 = false := by kernel_rfl
theorem ty40 : TyI Tryz.prog 40 1 24 (.slice none 0 0) := TyI.of kR   -- []uint32
theorem ag40 : aggB Tryz.prog 40 = false := by kernel_rfl
theorem ty42 : TyI Tryz.prog 42 2 32 (.agg #[.bool false, .slice none 0 0]) := TyI.of kR   -- api.Int
theorem ag42 : aggB Tryz.prog 42 = true := by kernel_rfl
theorem pl42 {fs : Array Field} (h : Tryz.prog.underlying 42 = some (.struct fs)) (w : World) : (fs.mapM fun (fl : Field) => (do pure (fl.offset, ← sizeOf fl.type) : Sem (Nat × Nat))).run Tryz.prog w = .ok #[(0, 1), (1, 1)] w := plq h _ w kR
theorem ty44 : TyI Tryz.prog 44 3 56 (.agg #[.bool false, .slice none 0 0, .slice none 0 0]) := TyI.of kR   -- api.Rat
theorem ag44 : aggB Tryz.prog 44 = true := by kernel_rfl
theorem pl44 {fs : Array Field} (h : Tryz.prog.underlying 44 = some (.struct fs)) (w : World) : (fs.mapM fun (fl : Field) => (do pure (fl.offset, ← sizeOf fl.type) : Sem (Nat × Nat))).run Tryz.prog w = .ok #[(0, 2), (2, 1)] w := plq h _ w kR
theorem ty55 : TyI Tryz.prog 55 4 64 (.agg #[.int .i64 0, .bool false, .slice none 0 0, .slice none 0 0]) := TyI.of kR   -- api.Entry
theorem ag55 : aggB Tryz.prog 55 = true := by kernel_rfl
theorem pl55 {fs : Array Field} (h : Tryz.prog.underlying 55 = some (.struct fs)) (w : World) : (fs.mapM fun (fl : Field) => (do pure (fl.offset, ← sizeOf fl.type) : Sem (Nat × Nat))).run Tryz.prog w = .ok #[(0, 1), (1, 3)] w := plq h _ w kR
theorem ty73 : TyI Tryz.prog 73 1 8 (.int .u64 0) := TyI.of kR   -- uint64
theorem ag73 : aggB Tryz.prog 73 = false := by kernel_rfl
theorem ty89 : TyI Tryz.prog 89 1 4 (.int .u32 0) := TyI.of kR   -- uint32
theorem ag89 : aggB Tryz.prog 89 = false := by kernel_rfl
theorem ty128 : TyI Tryz.prog 128 5 40 (.agg #[.int .u64 0, .int .u64 0, .int .u64 0, .int .u64 0, .bool false]) := TyI.of kR   -- natural.cofactors
theorem ag128 : aggB Tryz.prog 128 = true := by kernel_rfl
theorem pl128 {fs : Array Field} (h : Tryz.prog.underlying 128 = some (.struct fs)) (w : World) : (fs.mapM fun (fl : Field) => (do pure (fl.offset, ← sizeOf fl.type) : Sem (Nat × Nat))).run Tryz.prog w = .ok #[(0, 1), (1, 1), (2, 1), (3, 1), (4, 1)] w := plq h _ w kR
theorem ent6 : Ent Tryz.prog 6 := Ent.of func6 rfl kR   -- gridmarket/gridmarketlaw06.short
theorem ent11 : Ent Tryz.prog 11 := Ent.of func11 rfl kR   -- gridmarket/vector.Permute
theorem ent13 : Ent Tryz.prog 13 := Ent.of func13 rfl kR   -- gridmarket/gridmarketref06.Identical
theorem ent14 : Ent Tryz.prog 14 := Ent.of func14 rfl kR   -- gridmarket/gridmarketlaw06.awake
theorem ent15 : Ent Tryz.prog 15 := Ent.of func15 rfl kR   -- gridmarket/vector.FromDense
theorem ent17 : Ent Tryz.prog 17 := Ent.of func17 rfl kR   -- gridmarket/gridmarketref03.Equal
theorem ent18 : Ent Tryz.prog 18 := Ent.of func18 rfl kR   -- gridmarket/vector.Dot
theorem ent19 : Ent Tryz.prog 19 := Ent.of func19 rfl kR   -- gridmarket/gridmarkethelp.First[gridmarket/api.Rat]
theorem ent20 : Ent Tryz.prog 20 := Ent.of func20 rfl kR   -- gridmarket/vector.Dense
theorem ent21 : Ent Tryz.prog 21 := Ent.of func21 rfl kR   -- gridmarket/gridmarketref06.Dense
theorem ent22 : Ent Tryz.prog 22 := Ent.of func22 rfl kR   -- gridmarket/gridmarketref03.Same
theorem ent23 : Ent Tryz.prog 23 := Ent.of func23 rfl kR   -- gridmarket/gridmarketref06.FromDense
theorem ent24 : Ent Tryz.prog 24 := Ent.of func24 rfl kR   -- gridmarket/gridmarketref03.Canon
theorem ent25 : Ent Tryz.prog 25 := Ent.of func25 rfl kR   -- gridmarket/gridmarkethelp.First[gridmarket/api.Entry]
theorem ent26 : Ent Tryz.prog 26 := Ent.of func26 rfl kR   -- gridmarket/gridmarketmake.Mod
theorem ent27 : Ent Tryz.prog 27 := Ent.of func27 rfl kR   -- gridmarket/vector.isPermutation
theorem ent28 : Ent Tryz.prog 28 := Ent.of func28 rfl kR   -- gridmarket/vector.Norm
theorem ent29 : Ent Tryz.prog 29 := Ent.of func29 rfl kR   -- slices.SortFunc[[]gridmarket/api.Entry,gridmarket/api.Entry]
theorem ent30 : Ent Tryz.prog 30 := Ent.of func30 rfl kR   -- gridmarket/vector.byIndex
theorem ent31 : Ent Tryz.prog 31 := Ent.of func31 rfl kR   -- gridmarket/gridmarketref06.Norm
theorem ent33 : Ent Tryz.prog 33 := Ent.of func33 rfl kR   -- gridmarket/gridmarketref06.Valid
theorem ent34 : Ent Tryz.prog 34 := Ent.of func34 rfl kR   -- gridmarket/gridmarketref03.Canonical
theorem ent35 : Ent Tryz.prog 35 := Ent.of func35 rfl kR   -- gridmarket/gridmarketlaw06.entry
theorem ent36 : Ent Tryz.prog 36 := Ent.of func36 rfl kR   -- gridmarket/gridmarketref03.FromInt
theorem ent37 : Ent Tryz.prog 37 := Ent.of func37 rfl kR   -- gridmarket/rational.Sign
theorem ent38 : Ent Tryz.prog 38 := Ent.of func38 rfl kR   -- gridmarket/rational.Norm
theorem ent39 : Ent Tryz.prog 39 := Ent.of func39 rfl kR   -- gridmarket/gridmarketref06.Get
theorem ent40 : Ent Tryz.prog 40 := Ent.of func40 rfl kR   -- gridmarket/gridmarketref02.Equal
theorem ent41 : Ent Tryz.prog 41 := Ent.of func41 rfl kR   -- gridmarket/gridmarketref01.Equal
theorem ent42 : Ent Tryz.prog 42 := Ent.of func42 rfl kR   -- gridmarket/rational.FromInt
theorem ent43 : Ent Tryz.prog 43 := Ent.of func43 rfl kR   -- gridmarket/vector.merge
theorem ent44 : Ent Tryz.prog 44 := Ent.of func44 rfl kR   -- gridmarket/vector.arrange
theorem ent45 : Ent Tryz.prog 45 := Ent.of func45 rfl kR   -- gridmarket/vector.Dot$1
theorem ent46 : Ent Tryz.prog 46 := Ent.of func46 rfl kR   -- gridmarket/rational.Add
theorem ent47 : Ent Tryz.prog 47 := Ent.of func47 rfl kR   -- gridmarket/rational.Mul
theorem ent48 : Ent Tryz.prog 48 := Ent.of func48 rfl kR   -- gridmarket/gridmarketref03.Norm
theorem ent49 : Ent Tryz.prog 49 := Ent.of func49 rfl kR   -- gridmarket/vector.Norm$1
theorem ent50 : Ent Tryz.prog 50 := Ent.of func50 rfl kR   -- slices.pdqsortCmpFunc[gridmarket/api.Entry]
theorem ent51 : Ent Tryz.prog 51 := Ent.of func51 rfl kR   -- math/bits.Len
theorem ent52 : Ent Tryz.prog 52 := Ent.of func52 rfl kR   -- cmp.Compare[int]
theorem ent53 : Ent Tryz.prog 53 := Ent.of func53 rfl kR   -- gridmarket/gridmarketref06.Indices
theorem ent54 : Ent Tryz.prog 54 := Ent.of func54 rfl kR   -- gridmarket/gridmarketref03.Sign
theorem ent55 : Ent Tryz.prog 55 := Ent.of func55 rfl kR   -- gridmarket/gridmarketref03.Make
theorem ent56 : Ent Tryz.prog 56 := Ent.of func56 rfl kR   -- gridmarket/gridmarketref02.FromInt
theorem ent57 : Ent Tryz.prog 57 := Ent.of func57 rfl kR   -- gridmarket/rational.parts
theorem ent58 : Ent Tryz.prog 58 := Ent.of func58 rfl kR   -- gridmarket/integer.Sign
theorem ent59 : Ent Tryz.prog 59 := Ent.of func59 rfl kR   -- gridmarket/rational.small
theorem ent60 : Ent Tryz.prog 60 := Ent.of func60 rfl kR   -- gridmarket/rational.quotient
theorem ent61 : Ent Tryz.prog 61 := Ent.of func61 rfl kR   -- gridmarket/rational.lowest
theorem ent62 : Ent Tryz.prog 62 := Ent.of func62 rfl kR   -- gridmarket/gridmarketref03.Zero
theorem ent63 : Ent Tryz.prog 63 := Ent.of func63 rfl kR   -- gridmarket/gridmarketref03.Add
theorem ent64 : Ent Tryz.prog 64 := Ent.of func64 rfl kR   -- gridmarket/integer.FromInt
theorem ent65 : Ent Tryz.prog 65 := Ent.of func65 rfl kR   -- gridmarket/vector.ascending
theorem ent66 : Ent Tryz.prog 66 := Ent.of func66 rfl kR   -- slices.SortStableFunc[[]gridmarket/api.Entry,gridmarket/api.Entry]
theorem ent67 : Ent Tryz.prog 67 := Ent.of func67 rfl kR   -- gridmarket/natural.Compare
theorem ent68 : Ent Tryz.prog 68 := Ent.of func68 rfl kR   -- gridmarket/integer.Add
theorem ent69 : Ent Tryz.prog 69 := Ent.of func69 rfl kR   -- gridmarket/integer.Mul
theorem ent70 : Ent Tryz.prog 70 := Ent.of func70 rfl kR   -- gridmarket/natural.Mul
theorem ent71 : Ent Tryz.prog 71 := Ent.of func71 rfl kR   -- slices.insertionSortCmpFunc[gridmarket/api.Entry]
theorem ent81 : Ent Tryz.prog 81 := Ent.of func81 rfl kR   -- cmp.isNaN[int]
theorem ent82 : Ent Tryz.prog 82 := Ent.of func82 rfl kR   -- gridmarket/gridmarketref02.Sign
theorem ent83 : Ent Tryz.prog 83 := Ent.of func83 rfl kR   -- gridmarket/gridmarketref02.Norm
theorem ent84 : Ent Tryz.prog 84 := Ent.of func84 rfl kR   -- gridmarket/gridmarketref02.GCD
theorem ent85 : Ent Tryz.prog 85 := Ent.of func85 rfl kR   -- gridmarket/gridmarketref02.DivMod
theorem ent86 : Ent Tryz.prog 86 := Ent.of func86 rfl kR   -- gridmarket/gridmarketref02.Neg
theorem ent87 : Ent Tryz.prog 87 := Ent.of func87 rfl kR   -- gridmarket/gridmarketref02.Make
theorem ent88 : Ent Tryz.prog 88 := Ent.of func88 rfl kR   -- gridmarket/gridmarketref01.FromUint64
theorem ent89 : Ent Tryz.prog 89 := Ent.of func89 rfl kR   -- gridmarket/natural.Uint64
theorem ent90 : Ent Tryz.prog 90 := Ent.of func90 rfl kR   -- gridmarket/natural.FromUint64
theorem ent91 : Ent Tryz.prog 91 := Ent.of func91 rfl kR   -- gridmarket/integer.Norm
theorem ent92 : Ent Tryz.prog 92 := Ent.of func92 rfl kR   -- gridmarket/natural.Trim
theorem ent93 : Ent Tryz.prog 93 := Ent.of func93 rfl kR   -- gridmarket/natural.GCD
theorem ent94 : Ent Tryz.prog 94 := Ent.of func94 rfl kR   -- gridmarket/natural.DivMod
theorem ent95 : Ent Tryz.prog 95 := Ent.of func95 rfl kR   -- gridmarket/gridmarketref02.Add
theorem ent96 : Ent Tryz.prog 96 := Ent.of func96 rfl kR   -- gridmarket/gridmarketref02.Mul
theorem ent97 : Ent Tryz.prog 97 := Ent.of func97 rfl kR   -- gridmarket/gridmarketref03.den
theorem ent98 : Ent Tryz.prog 98 := Ent.of func98 rfl kR   -- gridmarket/integer.signed
theorem ent99 : Ent Tryz.prog 99 := Ent.of func99 rfl kR   -- slices.stableCmpFunc[gridmarket/api.Entry]
theorem ent100 : Ent Tryz.prog 100 := Ent.of func100 rfl kR   -- gridmarket/natural.cut
theorem ent101 : Ent Tryz.prog 101 := Ent.of func101 rfl kR   -- gridmarket/natural.Add
theorem ent102 : Ent Tryz.prog 102 := Ent.of func102 rfl kR   -- gridmarket/natural.Sub
theorem ent108 : Ent Tryz.prog 108 := Ent.of func108 rfl kR   -- gridmarket/gridmarketref01.GCD
theorem ent109 : Ent Tryz.prog 109 := Ent.of func109 rfl kR   -- gridmarket/gridmarketref01.DivMod
theorem ent110 : Ent Tryz.prog 110 := Ent.of func110 rfl kR   -- gridmarket/gridmarketref02.Abs
theorem ent111 : Ent Tryz.prog 111 := Ent.of func111 rfl kR   -- gridmarket/gridmarketref02.Sub
theorem ent112 : Ent Tryz.prog 112 := Ent.of func112 rfl kR   -- gridmarket/gridmarketref01.Trim
theorem ent113 : Ent Tryz.prog 113 := Ent.of func113 rfl kR   -- gridmarket/natural.word
theorem ent114 : Ent Tryz.prog 114 := Ent.of func114 rfl kR   -- gridmarket/natural.leading
theorem ent115 : Ent Tryz.prog 115 := Ent.of func115 rfl kR   -- gridmarket/natural.combine
theorem ent116 : Ent Tryz.prog 116 := Ent.of func116 rfl kR   -- gridmarket/natural.divideByLimb
theorem ent117 : Ent Tryz.prog 117 := Ent.of func117 rfl kR   -- gridmarket/natural.divideLong
theorem ent118 : Ent Tryz.prog 118 := Ent.of func118 rfl kR   -- gridmarket/gridmarketref01.Add
theorem ent119 : Ent Tryz.prog 119 := Ent.of func119 rfl kR   -- gridmarket/gridmarketref01.Sub
theorem ent120 : Ent Tryz.prog 120 := Ent.of func120 rfl kR   -- gridmarket/gridmarketref01.Mul
theorem ent121 : Ent Tryz.prog 121 := Ent.of func121 rfl kR   -- slices.symMergeCmpFunc[gridmarket/api.Entry]
theorem ent123 : Ent Tryz.prog 123 := Ent.of func123 rfl kR   -- gridmarket/gridmarketref01.Uint64
theorem ent124 : Ent Tryz.prog 124 := Ent.of func124 rfl kR   -- gridmarket/gridmarketref01.Bits
theorem ent125 : Ent Tryz.prog 125 := Ent.of func125 rfl kR   -- gridmarket/gridmarketref01.bit
theorem ent126 : Ent Tryz.prog 126 := Ent.of func126 rfl kR   -- math/bits.LeadingZeros32
theorem ent127 : Ent Tryz.prog 127 := Ent.of func127 rfl kR   -- gridmarket/natural.window
theorem ent128 : Ent Tryz.prog 128 := Ent.of func128 rfl kR   -- gridmarket/natural.shifted
theorem ent129 : Ent Tryz.prog 129 := Ent.of func129 rfl kR   -- gridmarket/natural.nextDigit
theorem ent130 : Ent Tryz.prog 130 := Ent.of func130 rfl kR   -- gridmarket/natural.ShiftRight
theorem ent131 : Ent Tryz.prog 131 := Ent.of func131 rfl kR   -- gridmarket/gridmarketref01.Compare
theorem ent132 : Ent Tryz.prog 132 := Ent.of func132 rfl kR   -- slices.rotateCmpFunc[gridmarket/api.Entry]
theorem ent133 : Ent Tryz.prog 133 := Ent.of func133 rfl kR   -- gridmarket/natural.window$1
theorem ent134 : Ent Tryz.prog 134 := Ent.of func134 rfl kR   -- slices.swapRangeCmpFunc[gridmarket/api.Entry]
abbrev uT2 := Tryz.underlying2
abbrev uT3 := Tryz.underlying3
abbrev uT4 := Tryz.underlying4
abbrev uT22 := Tryz.underlying22
abbrev uT23 := Tryz.underlying23
abbrev uT37 := Tryz.underlying37
abbrev uT40 := Tryz.underlying40
abbrev uT42 := Tryz.underlying42
abbrev uT44 := Tryz.underlying44
abbrev uT55 := Tryz.underlying55
abbrev uT73 := Tryz.underlying73
abbrev uT74 := Tryz.underlying74
abbrev uT77 := Tryz.underlying77
abbrev uT89 := Tryz.underlying89
abbrev uT105 := Tryz.underlying105
abbrev uT128 := Tryz.underlying128
end Go.Proofs.YtelbjmhhbeijkaaGreat
namespace Go.Vg
open Go Go.RowKit
section
variable {P : Program} {f : Nat → Value} {w : World} {dst : Option Tmp} {ty : TypeId} {pos : String} {aft : Array Edge} {g : Option (Nat × Bool)} {x y : Operand} {t e : TypeId}
end
section
variable {P : Program} {n : Nat} {f : Nat → Value} {w : World} {o : Oper} {ops : Array Oper} {rest : List Oper} {Q : Po} {d : Nat} {R : Value → World → Prop}
theorem RL.grun {j t : Nat} {want : Bool} (hg : o.guard = some (j, want)) (hj : (ops[j]?).bind (·.dst) = some t) (hf : f t = .bool want) (hd : o.dst = some d) (hn : d < n) (hr : Run P f o w R) (h : ∀ v w', R v w' → RL P n ops rest Q (st f d v) w') : RL P n ops (o :: rest) Q f w := by
  obtain ⟨v, w', hr, hR⟩ := hr
  exact RL.gval hg hj hf hd hn hr (h v w' hR)
end
section
variable {P : Program} {n : Nat} {f : Nat → Value} {w : World} {ops : Array Oper} {Q : Po}
theorem wdrawT {id : Nat} (S : World → Prop) (hm : P.follows .mixedOrders = true) (h : ∀ w1, Below w.heap.size w w1 → RA P n ops Q S ops.size (Array.replicate ops.size false) f w1) : WP P n (.region id ops true) Q f w :=
  wdrawS S hm (h w.drew (Below.drew (Below.refl _ _)))
end
section
variable {α : Type} {w : World} {e : TypeId} {D : Nat → TypeId → Prop}
theorem Ow.ss {c : α → List Value} {lo size n : Nat} {v : Value} {l : List Value} {xs : List α} (h : Ow w lo e size v n l) (hl : l = (xs.map c).flatten) (hn : n = xs.length) (hs : 0 < size) (hc : ∀ x ∈ xs, (c x).length = size) (hD : ∀ b, lo ≤ b → D b e) : Ss c size D w v xs := by
  subst hl hn
  exact ⟨⟨hs, hc⟩, h.sc hD⟩
theorem Ow.sg {g : α → Value} {lo n : Nat} {v : Value} {l : List Value} {xs : List α} (h : Ow w lo e 1 v n l) (hl : l = xs.map g) (hn : n = xs.length) (hD : ∀ b, lo ≤ b → D b e) : Sg g D w v xs := by
  subst hl hn
  exact h.sc hD
theorem Bk.ss {c : α → List Value} {b size n : Nat} {l : List Value} {xs : List α} (h : Bk w b e l) (hd : D b e) (hl : l = (xs.map c).flatten) (hn : n = xs.length) (hs : 0 < size) (hc : ∀ x ∈ xs, (c x).length = size) (hm : n ≤ 9223372036854775807) : Ss c size D w (.slice (some ⟨b, 0, none⟩) n n) xs := by
  subst hn
  refine ⟨⟨hs, hc⟩, ?_⟩
  rw [← hl]
  refine h.sc hd ?_ hm
  rw [hl, List.length_flatten, List.map_map]
  rw [List.map_congr_left (f := List.length ∘ c) (g := fun _ => size) (fun x hx => hc x hx)]
  generalize xs = ys
  clear h hc hd hl hm
  induction ys with
  | nil => simp
  | cons y ys ih => rw [List.map_cons, List.sum_cons, ih, List.length_cons, Nat.succ_mul, Nat.add_comm]
theorem Bk.sg {g : α → Value} {b n : Nat} {l : List Value} {xs : List α} (h : Bk w b e l) (hd : D b e) (hl : l = xs.map g) (hn : n = xs.length) (hm : n ≤ 9223372036854775807) : Sg g D w (.slice (some ⟨b, 0, none⟩) n n) xs := by
  subst hn
  subst hl
  exact h.sc hd (by simp) hm
theorem Bk.ar {g : α → Value} {b n : Nat} {l : List Value} {xs : List α} (h : Bk w b e l) (hl : l = xs.map g) (hn : xs.length = n) : Ar g w b e 0 xs n := ⟨⟨[], [], rfl, by subst hl; simpa using h⟩, hn⟩
end
end Go.Vg
namespace Go.Vg
open Go Go.RowKit
section
variable {P : Program} {n : Nat} {Q : Po} {f : Nat → Value} {w w' : World} {ops : Array Oper} {o : Oper} {rest : List Oper} {d : Nat} {v : Value}
theorem sE {a b : Value} (h : a = b := by first | rfl | exact int_eq oM | exact bool_eq (by simp)) : a = b := h
abbrev iv (a : Int) : Value := .int .i64 a
abbrev bd (p : Prop) [Decidable p] : Value := .bool (decide p)
theorem bD (p : Prop) [Decidable p] : (decide p = true ∧ p) ∨ (decide p = false ∧ ¬ p) := by by_cases h : p <;> simp [h]
theorem wcD {c : Operand} {x y : Code} {p : Prop} [Decidable p] (hc : ev f c = .bool (decide p)) (ht : decide p = true → p → WP P n x Q f w) (he : decide p = false → ¬ p → WP P n y Q f w) : WP P n (.cond c x y) Q f w := wcond hc (fun h => ht h (of_decide_eq_true h)) (fun h => he h (of_decide_eq_false h))
theorem wsr {id : Nat} {l : List Oper} {y : Code} (h : RL P n l.toArray l ⟨fun f w => WP P n y Q f w, Q.ext, Q.ret⟩ f w) : WP P n (.seq (.region id l.toArray false) y) Q f w := wseq (wregion h)
theorem mV {x : Operand} {ty : TypeId} {pos : String} {aft : Array Edge} (hv : ev f x = v) (h : RL P n ops rest Q (st f d v) w) (hn : d < n := by decide) : RL P n ops (⟨some d, .move x, ty, pos, aft, none⟩ :: rest) Q f w := RL.val rfl rfl hn (r_move_as hv) h
theorem aS {x : Operand} {ty : TypeId} {pos : String} {aft : Array Edge} (hv : ev f x = v) (h : RL P n ops rest Q (st f d v) w) (hn : d < n := by decide) : RL P n ops (⟨some d, .assign x, ty, pos, aft, none⟩ :: rest) Q f w := RL.val rfl rfl hn (r_assign_as hv) h
theorem cL {kf : FuncId} {al : List Operand} {vl : List Value} {tys : Array TypeId} {ty : TypeId} {pos : String} {aft : Array Edge} {Post : Value → World → Prop} (he : Ent P kf) (hc : Calls P kf vl.toArray w fun e w' => ∃ v, e = .returned v ∧ Post v w') (ha : al.map (ev f) = vl) (h : ∀ v w', Post v w' → RL P n ops rest Q (st f d v) w') (hn : d < n := by decide) : RL P n ops (⟨some d, .call ⟨.value (.func kf), al.toArray, tys⟩, ty, pos, aft, none⟩ :: rest) Q f w := RL.call rfl rfl hn (r_call he ha) hc h
theorem rV {i} {ty : TypeId} {pos : String} {aft : Array Edge} (hr : (execOp (ev f) ⟨some d, i, ty, pos, aft, none⟩).run P w = .ok (.value v) w') (h : RL P n ops rest Q (st f d v) w') (hn : d < n := by decide) : RL P n ops (⟨some d, i, ty, pos, aft, none⟩ :: rest) Q f w := RL.val rfl rfl hn hr h
theorem rU {i} {ty : TypeId} {pos : String} {aft : Array Edge} {Post : Value → World → Prop} (hr : Run P f ⟨some d, i, ty, pos, aft, none⟩ w Post) (h : ∀ v w', Post v w' → RL P n ops rest Q (st f d v) w') (hn : d < n := by decide) : RL P n ops (⟨some d, i, ty, pos, aft, none⟩ :: rest) Q f w := RL.run rfl rfl hn hr h
theorem rv (hr : (execOp (ev f) o).run P w = .ok (.value v) w') (h : RL P n ops rest Q (st f d v) w') (hg : o.guard = none := by rfl) (hd : o.dst = some d := by rfl) (hn : d < n := by decide) : RL P n ops (o :: rest) Q f w := RL.val hg hd hn hr h
variable {S : World → Prop} {fuel : Nat} {listed : Array Bool}
theorem ra (i : Nat) (hi : ops[i]? = some o) (hr : ∀ w, (execOp (ev f) o).run P w = .ok (.value v) w) (h : RA P n ops Q S fuel (listed.setIfInBounds i true) (st f d v) w) (hok : takeOk ops listed i = true := by kernel_rfl) (hg : o.guard = none := by rfl) (hd : o.dst = some d := by rfl) (hn : d < n := by decide) : RA P n ops Q S (fuel + 1) listed f w :=
  RA.take i hi hok hg hd hn hr h
theorem aM (i : Nat) {x : Operand} {ty : TypeId} {pos : String} {aft : Array Edge} (hi : ops[i]? = some ⟨some d, .move x, ty, pos, aft, none⟩) (hv : ev f x = v) (h : RA P n ops Q S fuel (listed.setIfInBounds i true) (st f d v) w) (hok : takeOk ops listed i = true := by kernel_rfl) (hn : d < n := by decide) : RA P n ops Q S (fuel + 1) listed f w := RA.take i hi hok rfl rfl hn (fun _ => r_move_as hv) h
theorem aA (i : Nat) {x : Operand} {ty : TypeId} {pos : String} {aft : Array Edge} (hi : ops[i]? = some ⟨some d, .assign x, ty, pos, aft, none⟩) (hv : ev f x = v) (h : RA P n ops Q S fuel (listed.setIfInBounds i true) (st f d v) w) (hok : takeOk ops listed i = true := by kernel_rfl) (hn : d < n := by decide) : RA P n ops Q S (fuel + 1) listed f w := RA.take i hi hok rfl rfl hn (fun _ => r_assign_as hv) h
theorem aR (i : Nat) {op : Op} {ty : TypeId} {pos : String} {aft : Array Edge} (hi : ops[i]? = some ⟨some d, op, ty, pos, aft, none⟩) (hr : ∀ u, S u → (execOp (ev f) ⟨some d, op, ty, pos, aft, none⟩).run P u = .ok (.value v) u) (h : RA P n ops Q S fuel (listed.setIfInBounds i true) (st f d v) w) (hS : S w := by exact Ext.refl _) (hok : takeOk ops listed i = true := by kernel_rfl) (hrd : isRd ⟨some d, op, ty, pos, aft, none⟩ = true := by rfl) (hn : d < n := by decide) : RA P n ops Q S (fuel + 1) listed f w := RA.rd i hi hok hrd rfl rfl hn hS hr h
theorem aG (i : Nat) {j t : Nat} {want : Bool} {op : Op} {ty : TypeId} {pos : String} {aft : Array Edge} (hi : ops[i]? = some ⟨some d, op, ty, pos, aft, some (j, want)⟩) (hj : (ops[j]?).bind (·.dst) = some t) (hf : f t = .bool want) (hr : ∀ w, (execOp (ev f) ⟨some d, op, ty, pos, aft, some (j, want)⟩).run P w = .ok (.value v) w) (h : RA P n ops Q S fuel (listed.setIfInBounds i true) (st f d v) w) (hok : takeOk ops listed i = true := by kernel_rfl) (hn : d < n := by decide) : RA P n ops Q S (fuel + 1) listed f w := RA.gtake i hi hok rfl hj hf rfl hn hr h
theorem aN (i : Nat) {j t : Nat} {want : Bool} {op : Op} {ty : TypeId} {pos : String} {aft : Array Edge} (hi : ops[i]? = some ⟨some d, op, ty, pos, aft, some (j, want)⟩) (hj : (ops[j]?).bind (·.dst) = some t) (hf : f t = .bool (!want) ∨ f t = undef) (h : RA P n ops Q S fuel (listed.setIfInBounds i true) (st f d undef) w) (hok : takeOk ops listed i = true := by kernel_rfl) (hn : d < n := by decide) : RA P n ops Q S (fuel + 1) listed f w := RA.gno i hi hok rfl hj hf rfl hn h
theorem cS {i : Nat} {rs : List Nat} {kf : FuncId} {al : List Operand} {vl : List Value} {tys : Array TypeId} {ty : TypeId} {pos : String} {aft : Array Edge} {Post : Value → World → Prop} (he : Ent P kf) (hc : Calls P kf vl.toArray w fun e w' => ∃ v, e = .returned v ∧ Post v w') (hi : ops[i]? = some ⟨some d, .call ⟨.value (.func kf), al.toArray, tys⟩, ty, pos, aft, none⟩) (ha : al.map (ev f) = vl) (h : ∀ v w', Post v w' → Oks ops S i w w' ∧ RA P n ops Q S fuel (listed.setIfInBounds i true) (st f d v) w') (hs : RS P n ops Q S fuel listed f w rs) (hn : d < n := by decide) : RS P n ops Q S fuel listed f w (i :: rs) := RS.call hi rfl rfl hn (r_call he ha) hc h hs
theorem rm {i : Nat} (he : Ext w w') (h : RA P n ops Q (fun u => Ext w' u) fuel listed f w') : Oks ops (fun u => Ext w u) i w w' ∧ RA P n ops Q (fun u => Ext w u) fuel listed f w' :=
  ⟨.inr (.inr he), RA.more (S' := fun u => Ext w' u) (fun _ hu => Ext.trans he hu) h⟩
end
section
variable {P : Program} {f : Nat → Value} {w : World} {dst : Option Tmp} {ty : TypeId} {pos : String} {aft : Array Edge} {g : Option (Nat × Bool)} {x y : Operand} {t : TypeId}
theorem h_stA {T : TypeId} {b o : Nat} {l : List Value} {cs : List Value} {size bytes : Nat} {zz : Value} (ht : TyI P t size bytes zz) (hx : ev f x = .pointer (some ⟨b, o, none⟩)) (hy : ev f y = .agg cs.toArray) (hc : (Value.agg cs.toArray).cells = cs.toArray) (hs : cs.length = size) (h1 : ∀ u ∈ cs, u.oneCell' = true) (hb : Bk w b T l) (hfit : o + cs.length ≤ l.length) : RunS P f ⟨dst, .store t x y, ty, pos, aft, g⟩ w fun w' => Bk w' b T (spl l o cs) ∧ Exc b w w' ∧ w'.heap.size = w.heap.size := h_store ht hx hy hc hs h1 hb hfit
theorem h_bxA {cs : List Value} (hx : ev f x = .agg cs.toArray) (hc : (Value.agg cs.toArray).cells = cs.toArray) : Run P f ⟨dst, .box t x, ty, pos, aft, g⟩ w fun v w' => ∃ b, v = .pointer (some ⟨b, 0, none⟩) ∧ Mk w t cs b w' := h_box hx hc
end
theorem _root_.Go.RowKit.Below.nx {w0 w w' : World} (h : Below w0.heap.size w0 w) (k : Ext w w') : Below w0.heap.size w0 w' := Below.ext h h.size k
theorem _root_.Go.RowKit.Below.nb {b : Nat} {w0 w w' : World} (h : Below w0.heap.size w0 w) (k : Exc b w w') (hb : w0.heap.size ≤ b) : Below w0.heap.size w0 w' := Below.exc h h.size k hb
theorem _root_.Go.RowKit.Below.ge {b : Nat} {w0 w : World} (h : Below w0.heap.size w0 w) (hs : b = w.heap.size) : w0.heap.size ≤ b := by rw [hs]; exact h.size
end Go.Vg
namespace Go.Proofs.YtelbjmhhbeijkaaGreat
open Go.Vg Go.RowKit _root_.Go.Proofs.Tryz
set_option linter.unusedVariables false
def modF (v n : Int) : Int := (v % 18446744073709551616) % n
theorem modF_range (v n : Int) (h : 0 < n) : 0 ≤ modF v n ∧ modF v n < n := ⟨Int.emod_nonneg _ oM, Int.emod_lt_of_pos _ h⟩
def cmpI (x y : Int) : Int := if x < y then -1 else if y < x then 1 else 0
theorem tmod_emod {a b : Int} (ha : 0 ≤ a) : a.tmod b = a % b := Int.tmod_eq_emod_of_nonneg ha
set_option maxHeartbeats 1000000 in
theorem mod_spec {v0 n0 : Int} (w : World) (hn : 0 < n0) (hn2 : n0 ≤ 9223372036854775807) :
    Calls Tryz.prog 26 #[(iv v0), (iv n0)] w fun e w' => ∃ v, e = .returned v ∧ v = .int .i64 (modF v0 n0) ∧ w = w' := by
 have hr := modF_range v0 n0 hn
 have hm := Int.emod_nonneg v0 (show (18446744073709551616 : Int) ≠ 0 by decide)
 refine calls_of (n := 11) (rs := [.tmp 4]) func26 rfl rfl rfl bL ?_
 refine wset fun F0 hF0 => ?_
 refine wsr (aS (v := (iv 0)) rfl (RL.nil (wsr (mV (v := (iv v0)) (hF0 0) (rV (r_conv (k := .u64) (a := v0) (c := v0 % 18446744073709551616) underlying3 underlying73 rfl (wu64m _)) (mV (v := (iv n0)) (hF0 1) (rV (r_conv (k := .u64) (a := n0) (c := n0) underlying3 underlying73 rfl (wu64 oM)) (rV (r_rem (k := .u64) (a := v0 % 18446744073709551616) (b := n0) (c := modF v0 n0) rfl rfl oM (tmod_emod hm)) (rV (r_conv (k := .i64) (a := modF v0 n0) (c := modF v0 n0) underlying73 underlying3 rfl (wi64 oM)) (aS (v := (iv (modF v0 n0))) rfl (RL.nil ?_)))))))))))
 refine wret ?_
 refine ⟨[(iv (modF v0 n0))], ⟨rfl, trivial⟩, ?_⟩
 exact ⟨rfl, rfl⟩
set_option maxHeartbeats 1000000 in
theorem isNaN_int {x : Int} (w : World) :
    Calls Tryz.prog 81 #[(iv x)] w fun e w' => ∃ v, e = .returned v ∧ v = .bool false ∧ w = w' := by
 refine calls_of (n := 6) (rs := [.tmp 2]) func81 rfl rfl rfl bL ?_
 refine wset fun F0 hF0 => ?_
 refine wsr (aS (v := (.bool false)) rfl (RL.nil (wsr (mV (v := (iv x)) (hF0 0) (mV (v := (iv x)) (hF0 0) (rV (r_neq (k := .i64) (a := x) (b := x) rfl rfl) (aS (v := (bd (x ≠ x))) rfl (RL.nil ?_))))))))
 refine wret ?_
 refine ⟨[(bd (x ≠ x))], ⟨rfl, trivial⟩, ?_⟩
 exact ⟨bool_eq (by simp), rfl⟩
set_option maxHeartbeats 1000000 in
theorem cmp_int {x y : Int} (w : World) :
    Calls Tryz.prog 52 #[(iv x), (iv y)] w fun e w' => ∃ v, e = .returned v ∧ v = .int .i64 (cmpI x y) ∧ w = w' := by
 refine calls_of (n := 20) (rs := [.tmp 4]) func52 rfl rfl rfl bL ?_
 refine wset fun F0 hF0 => ?_
 refine wsr (aS (v := (iv 0)) rfl (RL.nil (wsr (mV (v := (iv x)) (hF0 0) ?_))))
 refine cL ent81 (isNaN_int _) rfl ?_
 rintro _ _ ⟨rfl, rfl⟩
 refine aS (v := (.bool false)) rfl (RL.nil (wsr (mV (v := (iv y)) (hF0 1) ?_)))
 refine cL ent81 (isNaN_int _) rfl ?_
 rintro _ _ ⟨rfl, rfl⟩
 refine aS (v := (.bool false)) rfl (RL.nil (wseq (wsr (mV (v := (.bool false)) rfl (RL.nil ?_)))))
 refine wcond_f rfl ?_
 refine wskip ?_
 refine wseq (wsr (mV (v := (.bool false)) rfl (RL.nil ?_)))
 refine wcond_f rfl ?_
 refine wskip ?_
 refine wseq (wsr (mV (v := (iv x)) (hF0 0) (mV (v := (iv y)) (hF0 1) (rV (r_lss (k := .i64) (a := x) (b := y) rfl rfl) (RL.nil ?_)))))
 refine wcD (p := x < y) rfl (fun hb3 hb3p => ?_) (fun hb3 hb3p => ?_)
 ·refine wsr ?_
  refine aS (v := (iv (-1))) rfl (RL.nil ?_)
  refine wret ?_
  refine ⟨[(iv (-1))], ⟨rfl, trivial⟩, ?_⟩
  exact ⟨int_eq (by unfold cmpI; (repeat split) <;> omega), rfl⟩
 refine wskip ?_
 refine wseq (wsr (mV (v := (iv x)) (hF0 0) (mV (v := (iv y)) (hF0 1) (rV (r_gtr (k := .i64) (a := x) (b := y) rfl rfl) (RL.nil ?_)))))
 refine wcD (p := y < x) rfl (fun hb4 hb4p => ?_) (fun hb4 hb4p => ?_)
 ·refine wsr ?_
  refine aS (v := (iv 1)) rfl (RL.nil ?_)
  refine wret ?_
  refine ⟨[(iv 1)], ⟨rfl, trivial⟩, ?_⟩
  exact ⟨int_eq (by unfold cmpI; (repeat split) <;> omega), rfl⟩
 refine wskip ?_
 refine wsr (aS (v := (iv 0)) rfl (RL.nil ?_))
 refine wret ?_
 refine ⟨[(iv 0)], ⟨rfl, trivial⟩, ?_⟩
 exact ⟨int_eq (by unfold cmpI; (repeat split) <;> omega), rfl⟩
end Go.Proofs.YtelbjmhhbeijkaaGreat
namespace Go.Vg
open Go Go.RowKit
end Go.Vg
namespace Go.Vm
variable {α : Type}
def Srt (key : α → Int) (l : List α) : Prop := l.Pairwise fun x y => key x ≤ key y
def StE (key : α → Int) (l l' : List α) : Prop := ∀ k : Int, l.filter (fun x => key x == k) = l'.filter (fun x => key x == k)
theorem StE.refl (key : α → Int) (l : List α) : StE key l l := fun _ => rfl
theorem StE.symm {key : α → Int} {l l' : List α} (h : StE key l l') : StE key l' l := fun k => (h k).symm
theorem StE.trans {key : α → Int} {a b c : List α} (h : StE key a b) (h' : StE key b c) : StE key a c := fun k => (h k).trans (h' k)
theorem StE.append {key : α → Int} {a a' b b' : List α} (h : StE key a a') (h' : StE key b b') : StE key (a ++ b) (a' ++ b') := fun k => by
  rw [List.filter_append, List.filter_append, h k, h' k]
theorem StE.swap {key : α → Int} {a b : List α} (h : ∀ x ∈ a, ∀ y ∈ b, key x ≠ key y) : StE key (a ++ b) (b ++ a) := fun k => by
  rw [List.filter_append, List.filter_append]
  by_cases ha : a.filter (fun x => key x == k) = []
  · rw [ha]; simp
  have hb : b.filter (fun x => key x == k) = [] := by
    rw [List.filter_eq_nil_iff]
    intro y hy hk
    obtain ⟨x, hx⟩ := List.exists_mem_of_ne_nil _ ha
    rw [List.mem_filter] at hx
    have h1 : key x = k := by simpa using hx.2
    have h2 : key y = k := by simpa using hk
    exact h x hx.1 y hy (by rw [h1, h2])
  rw [hb]; simp
theorem StE.mem {key : α → Int} {l l' : List α} (h : StE key l l') {x : α} (hx : x ∈ l) : x ∈ l' := by
  have h1 : x ∈ l.filter (fun y => key y == key x) := by rw [List.mem_filter]; exact ⟨hx, by simp⟩
  rw [h (key x), List.mem_filter] at h1
  exact h1.1
theorem StE.perm [DecidableEq α] {key : α → Int} {l l' : List α} (h : StE key l l') : l.Perm l' := by
  rw [List.perm_iff_count]
  intro x
  have e : ∀ m : List α, m.count x = (m.filter (fun y => key y == key x)).count x := fun m => by
    rw [List.count_filter (by simp)]
  rw [e l, e l', h (key x)]
theorem StE.length {key : α → Int} {l l' : List α} (h : StE key l l') : l.length = l'.length := by
  -- by the number of keys that are met
  suffices H : ∀ n (l l' : List α), l.length ≤ n → StE key l l' → l.length = l'.length from H l.length l l' (Nat.le_refl _) h
  intro n
  induction n with
  | zero =>
    intro l l' hn h
    have hl : l = [] := List.eq_nil_of_length_eq_zero oM
    subst hl
    cases l' with
    | nil => rfl
    | cons y t => have := h.symm.mem (x := y) (by simp); simp at this
  | succ n ih =>
    intro l l' hn h
    cases l with
    | nil =>
      cases l' with
      | nil => rfl
      | cons y t => have := h.symm.mem (x := y) (by simp); simp at this
    | cons x t =>
      have part : ∀ m : List α, m.length = (m.filter (fun y => key y == key x)).length + (m.filter (fun y => !(key y == key x))).length := fun m => by
        induction m with
        | nil => rfl
        | cons a m ihm =>
          by_cases ha : key a == key x
          · simp [List.filter_cons, ha]; omega
          simp [List.filter_cons, ha]; omega
      rw [part (x :: t), part l', h (key x)]
      congr 1
      refine ih _ _ ?_ ?_
      · have := List.length_filter_le (fun y => !(key y == key x)) t
        simp [List.filter_cons] at *
        omega
      intro k
      rw [List.filter_filter, List.filter_filter]
      by_cases hk : k = key x
      · have e : ∀ m : List α, m.filter (fun a => (key a == k) && !(key a == key x)) = [] := fun m => by
          rw [List.filter_eq_nil_iff]; intro a _; simp; intro h1; rw [h1, hk]
        rw [e, e]
      have e : ∀ m : List α, m.filter (fun a => (key a == k) && !(key a == key x)) = m.filter (fun a => key a == k) := fun m => by
        apply List.filter_congr
        intro a _
        by_cases h1 : key a = k
        · simp [h1, hk]
        simp [h1]
      rw [e, e]
      exact h k
theorem Srt.append {key : α → Int} {a b : List α} (ha : Srt key a) (hb : Srt key b) (h : ∀ x ∈ a, ∀ y ∈ b, key x ≤ key y) : Srt key (a ++ b) := List.pairwise_append.2 ⟨ha, hb, h⟩
theorem Srt.left {key : α → Int} {a b : List α} (h : Srt key (a ++ b)) : Srt key a := (List.pairwise_append.1 h).1
theorem Srt.right {key : α → Int} {a b : List α} (h : Srt key (a ++ b)) : Srt key b := (List.pairwise_append.1 h).2.1
theorem Srt.le {key : α → Int} {a b : List α} (h : Srt key (a ++ b)) {x y : α} (hx : x ∈ a) (hy : y ∈ b) : key x ≤ key y := (List.pairwise_append.1 h).2.2 x hx y hy
theorem Srt.one (key : α → Int) (x : α) : Srt key [x] := List.pairwise_singleton _ _
theorem Srt.nil (key : α → Int) : Srt key [] := List.Pairwise.nil
def swp [Inhabited α] (xs : List α) (i j : Nat) : List α := (xs.set i (xs.getD j default)).set j (xs.getD i default)
def swpR [Inhabited α] (xs : List α) (a b : Nat) : Nat → List α
  | 0 => xs
  | n + 1 => swp (swpR xs a b n) (a + n) (b + n)
theorem length_swp [Inhabited α] (xs : List α) (i j : Nat) : (swp xs i j).length = xs.length := by simp [swp]
theorem length_swpR [Inhabited α] (xs : List α) (a b n : Nat) : (swpR xs a b n).length = xs.length := by
  induction n with
  | zero => rfl
  | succ n ih => rw [swpR, length_swp, ih]
theorem getElem?_swp [Inhabited α] (xs : List α) (i j k : Nat) (hi : i < xs.length) (hj : j < xs.length) : (swp xs i j)[k]? = if k = j then xs[i]? else if k = i then xs[j]? else xs[k]? := by
  unfold swp
  rw [List.getElem?_set, List.getElem?_set]
  simp only [List.length_set]
  by_cases h1 : k = j
  · subst h1; simp [hj, hi]
  by_cases h2 : k = i
  · subst h2; simp [hi, hj, Ne.symm h1, h1]
  simp [Ne.symm h1, Ne.symm h2, h1, h2]
theorem getElem?_swpR [Inhabited α] (xs : List α) (a b n k : Nat) (h1 : a + n ≤ b) (h2 : b + n ≤ xs.length) :
    (swpR xs a b n)[k]? = if a ≤ k ∧ k < a + n then xs[k - a + b]? else if b ≤ k ∧ k < b + n then xs[k - b + a]? else xs[k]? := by
  induction n generalizing k with
  | zero =>
    simp only [swpR, Nat.add_zero]
    rw [if_neg oM, if_neg oM]
  | succ n ih =>
    rw [swpR, getElem?_swp _ _ _ _ (by rw [length_swpR]; omega) (by rw [length_swpR]; omega)]
    have e := fun q => ih q oM oM
    simp only [e]
    by_cases c1 : k = b + n
    · subst c1
      rw [if_pos rfl, if_neg oM, if_neg oM, if_neg oM, if_pos oM]
      congr 1; omega
    rw [if_neg c1]
    by_cases c2 : k = a + n
    · subst c2
      rw [if_pos rfl, if_neg oM, if_neg oM, if_pos oM]
      congr 1; omega
    rw [if_neg c2]
    by_cases c3 : a ≤ k ∧ k < a + n
    · have d1 : a ≤ k ∧ k < a + (n + 1) := by omega
      rw [if_pos c3, if_pos d1]
    have d1 : ¬ (a ≤ k ∧ k < a + (n + 1)) := by omega
    rw [if_neg c3, if_neg d1]
    by_cases c4 : b ≤ k ∧ k < b + n
    · have d2 : b ≤ k ∧ k < b + (n + 1) := by omega
      rw [if_pos c4, if_pos d2]
    have d2 : ¬ (b ≤ k ∧ k < b + (n + 1)) := by omega
    rw [if_neg c4, if_neg d2]
theorem swpR_blocks [Inhabited α] (A L M R B : List α) (a b n : Nat) (ha : a = A.length) (hb : b = A.length + L.length + M.length) (hL : L.length = n) (hR : R.length = n) :
    swpR (A ++ L ++ M ++ R ++ B) a b n = A ++ R ++ M ++ L ++ B := by
  subst ha hb
  apply List.ext_getElem?
  intro k
  rw [getElem?_swpR _ _ _ _ _ oM (by simp; omega)]
  simp only [List.append_assoc]
  by_cases c1 : k < A.length
  · rw [if_neg oM, if_neg oM, List.getElem?_append_left c1, List.getElem?_append_left c1]
  by_cases c2 : k < A.length + n
  · rw [if_pos oM, List.getElem?_append_right (l₁ := A) (i := k) oM, List.getElem?_append_left (l₁ := R) oM,
      List.getElem?_append_right oM, List.getElem?_append_right oM, List.getElem?_append_right oM, List.getElem?_append_left oM]
    congr 1; omega
  by_cases c3 : k < A.length + n + M.length
  · rw [if_neg oM, if_neg oM, List.getElem?_append_right oM, List.getElem?_append_right oM, List.getElem?_append_left oM,
      List.getElem?_append_right oM, List.getElem?_append_right oM, List.getElem?_append_left oM]
    congr 1; omega
  by_cases c4 : k < A.length + n + M.length + n
  · rw [if_neg oM, if_pos oM, List.getElem?_append_right (l₁ := A) (i := k - (A.length + L.length + M.length) + A.length) oM, List.getElem?_append_left (l₁ := L) oM,
      List.getElem?_append_right oM, List.getElem?_append_right oM, List.getElem?_append_right oM, List.getElem?_append_left oM]
    congr 1; omega
  rw [if_neg oM, if_neg oM, List.getElem?_append_right oM, List.getElem?_append_right oM, List.getElem?_append_right oM, List.getElem?_append_right oM,
    List.getElem?_append_right oM, List.getElem?_append_right oM, List.getElem?_append_right oM, List.getElem?_append_right oM]
  congr 1; omega
theorem rot_gt [Inhabited α] (A P X Y S B : List α) (a m n : Nat) (ha : a = A.length + P.length) (hm : m = a + X.length) (hn : n = Y.length) (h : Y.length ≤ X.length) :
    swpR (A ++ P ++ X ++ Y ++ S ++ B) a m n = A ++ (P ++ Y) ++ X.drop Y.length ++ X.take Y.length ++ S ++ B := by
  subst ha hm hn
  have h0 := swpR_blocks (A ++ P) (X.take Y.length) (X.drop Y.length) Y (S ++ B) (A.length + P.length) (A.length + P.length + X.length) Y.length (by simp) (by simp; omega) (by simp; omega) rfl
  have e : A ++ P ++ X.take Y.length ++ X.drop Y.length ++ Y ++ (S ++ B) = A ++ P ++ X ++ Y ++ S ++ B := by
    rw [List.append_assoc (A ++ P), List.take_append_drop]; simp
  rw [e] at h0
  rw [h0]
  simp
theorem rot_lt [Inhabited α] (A P X Y S B : List α) (a m n : Nat) (ha : a = A.length + P.length) (hm : m = a + Y.length) (hn : n = X.length) (h : X.length ≤ Y.length) :
    swpR (A ++ P ++ X ++ Y ++ S ++ B) a m n = A ++ P ++ Y.drop (Y.length - X.length) ++ Y.take (Y.length - X.length) ++ (X ++ S) ++ B := by
  subst ha hm hn
  have h0 := swpR_blocks (A ++ P) X (Y.take (Y.length - X.length)) (Y.drop (Y.length - X.length)) (S ++ B) (A.length + P.length) (A.length + P.length + Y.length) X.length (by simp) (by simp; omega) rfl (by simp; omega)
  have e : A ++ P ++ X ++ Y.take (Y.length - X.length) ++ Y.drop (Y.length - X.length) ++ (S ++ B) = A ++ P ++ X ++ Y ++ S ++ B := by
    rw [List.append_assoc (A ++ P ++ X), List.take_append_drop]; simp
  rw [e] at h0
  rw [h0]
  simp
theorem set2 (A B : List α) (u v p q : α) (i j : Nat) (hi : i = A.length) (hj : j = A.length + 1) : ((A ++ u :: v :: B).set j p).set i q = A ++ q :: p :: B := by
  subst hi hj
  rw [List.set_append_right _ _ oM, List.set_append_right _ _ (Nat.le_refl _)]
  simp
theorem getD_mid [Inhabited α] (A B : List α) (x : α) (i : Nat) (hi : i = A.length) : (A ++ x :: B).getD i default = x := by
  subst hi
  simp [List.getD_eq_getElem?_getD]
theorem drop_cons [Inhabited α] (l : List α) (k : Nat) (h : k < l.length) : l.drop k = l.getD k default :: l.drop (k + 1) := by
  rw [List.drop_eq_getElem_cons h]
  simp [h]
theorem take_snoc [Inhabited α] (l : List α) (k : Nat) (h : k < l.length) : l.take (k + 1) = l.take k ++ [l.getD k default] := by
  rw [List.take_succ_eq_append_getElem h]
  simp [h]
theorem snoc_of (l : List α) (h : 0 < l.length) : ∃ l' y, l = l' ++ [y] :=
  ⟨l.dropLast, l.getLast (fun e => by rw [e] at h; simp at h), (List.dropLast_concat_getLast _).symm⟩
theorem ins_srt {key : α → Int} {S1 S2 : List α} {x : α} (h : Srt key (S1 ++ S2)) (h2 : ∀ y ∈ S2, key x < key y) (h1 : S1 = [] ∨ ∃ S3 y, S1 = S3 ++ [y] ∧ key y ≤ key x) : Srt key (S1 ++ x :: S2) := by
  have hx : Srt key (x :: S2) := List.pairwise_cons.2 ⟨fun y hy => Int.le_of_lt (h2 y hy), h.right⟩
  refine Srt.append h.left hx fun z hz y hy => ?_
  have hzx : key z ≤ key x := by
    rcases h1 with rfl | ⟨S3, u, rfl, hu⟩
    · cases hz
    rcases List.mem_append.1 hz with hz | hz
    · exact Int.le_trans (Srt.le h.left hz (by simp)) hu
    simp at hz; subst hz; exact hu
  rcases List.mem_cons.1 hy with rfl | hy
  · exact hzx
  exact h.le hz hy
theorem ins_ste {key : α → Int} {S1 S2 : List α} {x : α} (h2 : ∀ y ∈ S2, key x < key y) : StE key (S1 ++ S2 ++ [x]) (S1 ++ x :: S2) := by
  rw [List.append_assoc]
  refine StE.append (StE.refl _ _) ?_
  exact StE.swap (b := [x]) fun y hy z hz => by simp at hz; subst hz; have := h2 y hy; omega
theorem getD_seg [Inhabited α] (A S B : List α) (i k : Nat) (hk : i = A.length + k) (h : k < S.length) : (A ++ S ++ B).getD i default = S.getD k default := by
  subst hk
  rw [List.getD_eq_getElem?_getD, List.getD_eq_getElem?_getD, List.append_assoc, List.getElem?_append_right oM, Nat.add_sub_cancel_left, List.getElem?_append_left h]
theorem getD_mem [Inhabited α] (l : List α) (k : Nat) (h : k < l.length) : l.getD k default ∈ l := by simp [h]
theorem Srt.at {key : α → Int} [Inhabited α] {l : List α} (h : Srt key l) {i j : Nat} (hij : i ≤ j) (hj : j < l.length) : key (l.getD i default) ≤ key (l.getD j default) := by
  rcases Nat.lt_or_ge i j with h1 | h1
  · have := List.pairwise_iff_getElem.1 h i j oM hj h1
    simpa [hj, show i < l.length by omega] using this
  have : i = j := by omega
  subst this
  exact Int.le_refl _
theorem mem_take_at [Inhabited α] {l : List α} {p : Nat} {z : α} (h : z ∈ l.take p) : ∃ i, i < p ∧ i < l.length ∧ z = l.getD i default := by
  obtain ⟨i, hi, e⟩ := List.mem_iff_getElem.1 h
  simp at hi
  exact ⟨i, by omega, by omega, by rw [← e]; simp [show i < l.length by omega]⟩
theorem mem_drop_at [Inhabited α] {l : List α} {p : Nat} {z : α} (h : z ∈ l.drop p) : ∃ i, p ≤ i ∧ i < l.length ∧ z = l.getD i default := by
  obtain ⟨i, hi, e⟩ := List.mem_iff_getElem.1 h
  simp at hi
  exact ⟨p + i, by omega, by omega, by rw [← e]; simp [show p + i < l.length by omega]⟩
theorem Srt.take {key : α → Int} {l : List α} (h : Srt key l) (p : Nat) : Srt key (l.take p) := List.Pairwise.sublist (List.take_sublist p l) h
theorem Srt.drop {key : α → Int} {l : List α} (h : Srt key l) (p : Nat) : Srt key (l.drop p) := List.Pairwise.sublist (List.drop_sublist p l) h
theorem merge_left [Inhabited α] {key : α → Int} {R : List α} {x : α} {p : Nat} (h : Srt key R) (hp : p ≤ R.length) (h1 : p = 0 ∨ key (R.getD (p - 1) default) < key x) (h2 : p = R.length ∨ key x ≤ key (R.getD p default)) :
    Srt key (R.take p ++ x :: R.drop p) ∧ StE key (x :: R) (R.take p ++ x :: R.drop p) := by
  have lo : ∀ z ∈ R.take p, key z < key x := fun z hz => by
    obtain ⟨i, hi, hl, rfl⟩ := mem_take_at hz
    rcases h1 with rfl | h1
    · omega
    have := h.at (i := i) (j := p - 1) oM oM; omega
  have hi : ∀ z ∈ R.drop p, key x ≤ key z := fun z hz => by
    obtain ⟨i, hi, hl, rfl⟩ := mem_drop_at hz
    rcases h2 with rfl | h2
    · omega
    have := h.at (i := p) (j := i) oM oM; omega
  refine ⟨Srt.append (h.take p) (List.pairwise_cons.2 ⟨hi, h.drop p⟩) fun z hz y hy => ?_, ?_⟩
  · have h3 := lo z hz
    rcases List.mem_cons.1 hy with rfl | hy
    · omega
    have := hi y hy; omega
  have e : x :: R = ([x] ++ R.take p) ++ R.drop p := by simp
  have e2 : R.take p ++ x :: R.drop p = (R.take p ++ [x]) ++ R.drop p := by simp
  rw [e, e2]
  exact StE.append (StE.swap fun a ha b hb => by simp at ha; subst ha; have := lo b hb; omega) (StE.refl _ _)
theorem merge_right [Inhabited α] {key : α → Int} {L : List α} {y : α} {q : Nat} (h : Srt key L) (hq : q ≤ L.length) (h1 : q = 0 ∨ key (L.getD (q - 1) default) ≤ key y) (h2 : q = L.length ∨ key y < key (L.getD q default)) :
    Srt key (L.take q ++ y :: L.drop q) ∧ StE key (L ++ [y]) (L.take q ++ y :: L.drop q) := by
  have lo : ∀ z ∈ L.take q, key z ≤ key y := fun z hz => by
    obtain ⟨i, hi, hl, rfl⟩ := mem_take_at hz
    rcases h1 with rfl | h1
    · omega
    have := h.at (i := i) (j := q - 1) oM oM; omega
  have hi : ∀ z ∈ L.drop q, key y < key z := fun z hz => by
    obtain ⟨i, hi, hl, rfl⟩ := mem_drop_at hz
    rcases h2 with rfl | h2
    · omega
    have := h.at (i := q) (j := i) oM oM; omega
  refine ⟨Srt.append (h.take q) (List.pairwise_cons.2 ⟨fun z hz => by have := hi z hz; omega, h.drop q⟩) fun z hz u hu => ?_, ?_⟩
  · have h3 := lo z hz
    rcases List.mem_cons.1 hu with rfl | hu
    · exact h3
    have := hi u hu; omega
  have e : L ++ [y] = L.take q ++ (L.drop q ++ [y]) := by rw [← List.append_assoc, List.take_append_drop]
  rw [e]
  exact StE.append (StE.refl _ _) (StE.swap (b := [y]) fun a ha b hb => by simp at hb; subst hb; have := hi a ha; omega)
theorem sym_parts [Inhabited α] {key : α → Int} {L R M1 M2 : List α} {u v : Nat} (hL : Srt key L) (hR : Srt key R) (hu : u ≤ L.length) (hv : v ≤ R.length)
    (h1 : u = 0 ∨ v = R.length ∨ key (L.getD (u - 1) default) ≤ key (R.getD v default)) (h2 : u = L.length ∨ v = 0 ∨ key (R.getD (v - 1) default) < key (L.getD u default))
    (s1 : Srt key M1) (e1 : StE key (L.take u ++ R.take v) M1) (s2 : Srt key M2) (e2 : StE key (L.drop u ++ R.drop v) M2) :
    Srt key (M1 ++ M2) ∧ StE key (L ++ R) (M1 ++ M2) := by
  have lt : ∀ a ∈ L.drop u, ∀ b ∈ R.take v, key b < key a := fun a ha b hb => by
    obtain ⟨i, hi, hil, rfl⟩ := mem_drop_at ha
    obtain ⟨j, hj, hjl, rfl⟩ := mem_take_at hb
    rcases h2 with rfl | rfl | h2
    · omega
    · omega
    have q1 := hL.at (i := u) (j := i) oM oM
    have q2 := hR.at (i := j) (j := v - 1) oM oM
    omega
  have le : ∀ a ∈ L.take u, ∀ b ∈ R.drop v, key a ≤ key b := fun a ha b hb => by
    obtain ⟨i, hi, hil, rfl⟩ := mem_take_at ha
    obtain ⟨j, hj, hjl, rfl⟩ := mem_drop_at hb
    rcases h1 with rfl | rfl | h1
    · omega
    · omega
    have q1 := hL.at (i := i) (j := u - 1) oM oM
    have q2 := hR.at (i := v) (j := j) oM oM
    omega
  refine ⟨Srt.append s1 s2 fun z hz y hy => ?_, ?_⟩
  · have hz' := e1.symm.mem hz
    have hy' := e2.symm.mem hy
    rcases List.mem_append.1 hz' with hz' | hz' <;> rcases List.mem_append.1 hy' with hy' | hy'
    · have := hL; rw [← List.take_append_drop u L] at this; exact this.le hz' hy'
    · exact le z hz' y hy'
    · exact Int.le_of_lt (lt y hy' z hz')
    have := hR; rw [← List.take_append_drop v R] at this; exact this.le hz' hy'
  have e : L ++ R = L.take u ++ (L.drop u ++ R.take v) ++ R.drop v := by
    rw [List.append_assoc, List.append_assoc, List.take_append_drop, ← List.append_assoc, List.take_append_drop]
  rw [e]
  have e3 : StE key (L.take u ++ (L.drop u ++ R.take v) ++ R.drop v) (L.take u ++ (R.take v ++ L.drop u) ++ R.drop v) :=
    StE.append (StE.append (StE.refl _ _) (StE.swap fun a ha b hb => by have := lt a ha b hb; omega)) (StE.refl _ _)
  refine e3.trans ?_
  have e4 : L.take u ++ (R.take v ++ L.drop u) ++ R.drop v = (L.take u ++ R.take v) ++ (L.drop u ++ R.drop v) := by simp
  rw [e4]
  exact StE.append e1 e2
theorem shr_one (z : Nat) : (z : Int).fdiv (2 ^ (min (1 : Int).toNat IntKind.u64.bits)) = ((z / 2 : Nat) : Int) := by
  have : (min (1 : Int).toNat IntKind.u64.bits) = 1 := by decide
  rw [this, Int.fdiv_eq_ediv_of_nonneg _ dC]
  omega
theorem list_one [Inhabited α] (l : List α) (h : l.length = 1) : l = [l.getD 0 default] := by
  match l, h with
  | [x], _ => rfl
theorem cons_of (l : List α) (h : 0 < l.length) : ∃ v l', l = v :: l' := by
  match l, h with
  | v :: l', _ => exact ⟨v, l', rfl⟩
theorem set2' (A B : List α) (u v p q : α) (i j : Nat) (hi : i = A.length) (hj : j = A.length + 1) : ((A ++ u :: v :: B).set i p).set j q = A ++ p :: q :: B := by
  subst hi hj
  rw [List.set_append_right _ _ (Nat.le_refl _), List.set_append_right _ _ oM]
  simp
theorem one_left [Inhabited α] (A L R B : List α) (p : Nat) (h : L.length = 1) : A ++ L ++ R ++ B = A ++ [] ++ L.getD 0 default :: R.take p ++ R.drop p ++ B := by
  have e := list_one L h
  generalize L.getD 0 default = x at *
  subst e
  simp
theorem one_right [Inhabited α] (A L R B : List α) (q : Nat) (h : R.length = 1) : A ++ L ++ R ++ B = A ++ L.take q ++ L.drop q ++ R.getD 0 default :: [] ++ B := by
  have e := list_one R h
  generalize R.getD 0 default = x at *
  subst e
  simp
theorem take_drop_app (l B : List α) (n : Nat) : l.take n ++ (l.drop n ++ B) = l ++ B := by rw [← List.append_assoc, List.take_append_drop]
theorem no_rot (A L R B : List α) (u v : Nat) (h : L.length ≤ u ∨ v = 0) : A ++ L ++ R ++ B = A ++ L.take u ++ R.take v ++ (L.drop u ++ R.drop v ++ B) := by
  rcases h with h | h
  · rw [List.take_of_length_le h, List.drop_of_length_le h]; simp [take_drop_app]
  subst h; simp [take_drop_app]
theorem yes_rot (A L R B : List α) (u v : Nat) : A ++ L ++ R ++ B = (A ++ L.take u) ++ L.drop u ++ R.take v ++ (R.drop v ++ B) := by simp [take_drop_app]
theorem no_mrg {key : α → Int} {L R : List α} {u v : Nat} (hL : Srt key L) (hR : Srt key R) (h : u = 0 ∨ v = 0) : Srt key (L.take u ++ R.take v) := by
  rcases h with rfl | rfl
  · simpa using hR.take v
  simpa using hL.take u
theorem no_mrg' {key : α → Int} {L R : List α} {u v : Nat} (hL : Srt key L) (hR : Srt key R) (h : L.length ≤ u ∨ R.length ≤ v) : Srt key (L.drop u ++ R.drop v) := by
  rcases h with h | h
  · rw [List.drop_of_length_le h]; simpa using hR.drop v
  rw [List.drop_of_length_le h]; simpa using hL.drop u
theorem key_lt {a b : Int} (h : (if a < b then (-1 : Int) else if b < a then 1 else 0) < 0) : a < b := by
  (repeat split at h) <;> omega
theorem key_ge {a b : Int} (h : ¬ (if a < b then (-1 : Int) else if b < a then 1 else 0) < 0) : b ≤ a := by
  (repeat split at h) <;> omega
def Blk (key : α → Int) (z : Nat) (l : List α) : Prop := ∀ q, Srt key ((l.drop (q * z)).take z)
theorem Blk.nil (key : α → Int) (z : Nat) : Blk key z ([] : List α) := fun q => by simp; exact Srt.nil _
theorem Blk.snoc {key : α → Int} {z : Nat} {D S : List α} (h : Blk key z D) (hd : ∃ k, D.length = k * z) (hs : Srt key S) (hl : S.length ≤ z) : Blk key z (D ++ S) := fun q => by
  obtain ⟨k, hk⟩ := hd
  rcases Nat.lt_or_ge q k with hq | hq
  · have h1 : q * z + z ≤ k * z := by rw [← Nat.succ_mul]; exact Nat.mul_le_mul_right _ hq
    rw [List.drop_append_of_le_length oM, List.take_append_of_le_length (by simp; omega)]
    exact h q
  have h1 : k * z ≤ q * z := Nat.mul_le_mul_right _ hq
  rw [List.drop_append, List.drop_of_length_le oM]
  simp only [List.nil_append]
  exact (hs.drop _).take _
theorem Blk.at {key : α → Int} {z : Nat} {l : List α} (h : Blk key z l) {e : Nat} (he : ∃ k, e = k * z) : Srt key ((l.drop e).take z) := by
  obtain ⟨k, rfl⟩ := he
  exact h k
theorem Blk.rest {key : α → Int} {z : Nat} {l : List α} (h : Blk key z l) {e : Nat} (he : ∃ k, e = k * z) (hl : l.length ≤ e + z) : Srt key (l.drop e) := by
  have := h.at he
  rwa [List.take_of_length_le (by simp; omega)] at this
theorem Blk.all {key : α → Int} {z : Nat} {l : List α} (h : Blk key z l) (hl : l.length ≤ z) : Srt key l := by
  have := h.rest (e := 0) ⟨0, by simp⟩ oM
  simpa using this
theorem seg_split (D l : List α) (e z : Nat) : D ++ l.drop e = D ++ (l.drop e).take z ++ l.drop (e + z) := by
  rw [List.append_assoc, ← List.drop_drop, List.take_append_drop]
theorem seg_split2 (D l : List α) (e z : Nat) : D ++ l.drop e = D ++ (l.drop e).take z ++ (l.drop (e + z)).take z ++ l.drop (e + 2 * z) := by
  rw [seg_split D l e z, seg_split _ l (e + z) z, show e + z + z = e + 2 * z by omega]
theorem take_seg (l : List α) (e z : Nat) : l.take (e + z) = l.take e ++ (l.drop e).take z := by rw [List.take_add]
theorem twice {e z : Nat} (h : ∃ k, e = k * (2 * z)) : ∃ k, e = k * z := by
  obtain ⟨k, rfl⟩ := h
  exact ⟨k * 2, by rw [Nat.mul_assoc]⟩
theorem next_mul {e z : Nat} (h : ∃ k, e = k * z) : ∃ k, e + z = k * z := by
  obtain ⟨k, rfl⟩ := h
  exact ⟨k + 1, by rw [Nat.add_mul, Nat.one_mul]⟩
end Go.Vm
namespace Go.Vm
def val : List Nat → Nat
  | [] => 0
  | x :: xs => x + 4294967296 * val xs
def Lm (xs : List Nat) : Prop := ∀ x ∈ xs, x < 4294967296
def digsF : Nat → Nat → List Nat
  | 0, _ => []
  | f + 1, n => if n = 0 then [] else (n % 4294967296) :: digsF f (n / 4294967296)
def digs (n : Nat) : List Nat := digsF n n
def len (n : Nat) : Nat := (digs n).length
theorem digsF_ind : ∀ (f g n : Nat), n ≤ f → n ≤ g → digsF f n = digsF g n
  | 0, 0, _, _, _ => rfl
  | 0, g + 1, n, h, _ => by have : n = 0 := by omega
                            subst this; simp [digsF]
  | f + 1, 0, n, _, h => by have : n = 0 := by omega
                            subst this; simp [digsF]
  | f + 1, g + 1, n, h1, h2 => by
    by_cases h0 : n = 0
    · simp [digsF, h0]
    simp only [digsF, h0, if_false]
    rw [digsF_ind f g (n / 4294967296) oM oM]
theorem digs_zero : digs 0 = [] := rfl
theorem digs_pos {n : Nat} (h : n ≠ 0) : digs n = (n % 4294967296) :: digs (n / 4294967296) := by
  obtain ⟨m, rfl⟩ : ∃ m, n = m + 1 := ⟨n - 1, by omega⟩
  show digsF (m + 1) (m + 1) = _
  simp only [digsF, h, if_false]
  rw [digsF_ind m ((m + 1) / 4294967296) _ oM oM]
  rfl
theorem val_digs (n : Nat) : val (digs n) = n := by
  induction n using Nat.strongRecOn with
  | ind n ih =>
    by_cases h : n = 0
    · subst h; rfl
    rw [digs_pos h]
    show n % 4294967296 + 4294967296 * val (digs (n / 4294967296)) = n
    rw [ih _ oM]
    omega
theorem digs_lm (n : Nat) : Lm (digs n) := by
  induction n using Nat.strongRecOn with
  | ind n ih =>
    by_cases h : n = 0
    · subst h; intro x hx; rw [digs_zero] at hx; cases hx
    rw [digs_pos h]
    intro x hx
    rcases List.mem_cons.1 hx with rfl | hx
    · exact Nat.mod_lt _ dC
    exact ih _ oM x hx
theorem val_append (a b : List Nat) : val (a ++ b) = val a + 4294967296 ^ a.length * val b := by
  induction a with
  | nil => simp [val]
  | cons x a ih =>
    show x + 4294967296 * val (a ++ b) = x + 4294967296 * val a + 4294967296 ^ (a.length + 1) * val b
    rw [ih, Nat.pow_succ, Nat.mul_add, Nat.mul_comm (4294967296 ^ a.length) 4294967296, Nat.mul_assoc]
    omega
theorem val_snoc (a : List Nat) (x : Nat) : val (a ++ [x]) = val a + 4294967296 ^ a.length * x := by
  rw [val_append]; simp [val]
theorem val_lt {a : List Nat} (h : Lm a) : val a < 4294967296 ^ a.length := by
  induction a with
  | nil => simp [val]
  | cons x a ih =>
    have h1 := ih (fun y hy => h y (by simp [hy]))
    have h2 := h x (by simp)
    show x + 4294967296 * val a < 4294967296 ^ (a.length + 1)
    rw [Nat.pow_succ, Nat.mul_comm]
    omega
theorem Lm.nil : Lm [] := fun _ h => by cases h
theorem Lm.append {a b : List Nat} (ha : Lm a) (hb : Lm b) : Lm (a ++ b) := fun x hx => by
  rcases List.mem_append.1 hx with h | h
  · exact ha x h
  exact hb x h
theorem Lm.snoc {a : List Nat} (ha : Lm a) {x : Nat} (hx : x < 4294967296) : Lm (a ++ [x]) := ha.append fun y hy => by rw [List.mem_singleton] at hy; omega
theorem Lm.take {a : List Nat} (h : Lm a) (k : Nat) : Lm (a.take k) := fun x hx => h x (List.mem_of_mem_take hx)
theorem Lm.drop {a : List Nat} (h : Lm a) (k : Nat) : Lm (a.drop k) := fun x hx => h x (List.mem_of_mem_drop hx)
theorem Lm.at {a : List Nat} (h : Lm a) {k : Nat} (hk : k < a.length) : a.getD k default < 4294967296 := h _ (getD_mem _ _ hk)
theorem val_zeros (n : Nat) : val (List.replicate n 0) = 0 := by
  induction n with
  | zero => rfl
  | succ n ih => rw [List.replicate_succ]; show 0 + 4294967296 * val _ = 0; rw [ih]
theorem Lm.zeros (n : Nat) : Lm (List.replicate n 0) := fun x hx => by rw [List.eq_of_mem_replicate hx]; decide
def Cn (a : List Nat) : Prop := a.length = 0 ∨ a.getD (a.length - 1) default ≠ 0
theorem Cn.tail {x : Nat} {a : List Nat} (h : Cn (x :: a)) (ha : a ≠ []) : Cn a := by
  right
  rcases h with h | h
  · simp at h
  have : 0 < a.length := List.length_pos_iff.2 ha
  rw [List.length_cons, Nat.add_sub_cancel] at h
  obtain ⟨m, hm⟩ : ∃ m, a.length = m + 1 := ⟨a.length - 1, by omega⟩
  rw [hm] at h ⊢
  simpa using h
theorem Cn.pos {a : List Nat} (h : Cn a) (ha : a ≠ []) : 0 < val a := by
  induction a with
  | nil => exact absurd rfl ha
  | cons x a ih =>
    show 0 < x + 4294967296 * val a
    by_cases h0 : a = []
    · subst h0
      rcases h with h | h
      · simp at h
      simp at h; omega
    have := ih (h.tail h0) h0; omega
theorem canon_digs {a : List Nat} (hl : Lm a) (hc : Cn a) : a = digs (val a) := by
  induction a with
  | nil => rfl
  | cons x a ih =>
    have hx := hl x (by simp)
    have hpos := hc.pos (by simp)
    rw [digs_pos oM]
    show x :: a = ((x + 4294967296 * val a) % 4294967296) :: digs ((x + 4294967296 * val a) / 4294967296)
    rw [show (x + 4294967296 * val a) % 4294967296 = x by omega, show (x + 4294967296 * val a) / 4294967296 = val a by omega]
    congr 1
    by_cases h0 : a = []
    · subst h0; rfl
    exact ih (fun y hy => hl y (by simp [hy])) (hc.tail h0)
theorem digs_cn (n : Nat) : Cn (digs n) := by
  induction n using Nat.strongRecOn with
  | ind n ih =>
    by_cases h : n = 0
    · subst h; exact .inl rfl
    right
    rw [digs_pos h]
    by_cases h0 : n / 4294967296 = 0
    · rw [h0, digs_zero]
      simp; omega
    have h1 := ih _ (show n / 4294967296 < n by omega)
    rcases h1 with h1 | h1
    · rw [digs_pos h0] at h1; simp at h1
    obtain ⟨m, hm⟩ : ∃ m, (digs (n / 4294967296)).length = m + 1 := ⟨(digs (n / 4294967296)).length - 1, by rw [digs_pos h0]; simp⟩
    rw [List.length_cons, Nat.add_sub_cancel, hm]
    rw [hm, Nat.add_sub_cancel] at h1
    simpa using h1
theorem trim_digs {xs : List Nat} {n : Nat} (hx : Lm xs) (hn : n ≤ xs.length) (hv : val (xs.take n) = val xs) (hl : n = 0 ∨ xs.getD (n - 1) default ≠ 0) : xs.take n = digs (val xs) := by
  rw [← hv]
  refine canon_digs (hx.take n) ?_
  have hlen : (xs.take n).length = n := by simp; omega
  unfold Cn
  rw [hlen]
  rcases hl with h | h
  · exact .inl h
  by_cases h0 : n = 0
  · exact .inl h0
  right
  simpa [List.getD_eq_getElem?_getD, List.getElem?_take, show n - 1 < n by omega] using h
theorem trim_step {xs : List Nat} {n : Nat} (hn : n ≤ xs.length) (h0 : 0 < n) (hv : val (xs.take n) = val xs) (hz : xs.getD (n - 1) default = 0) : val (xs.take (n - 1)) = val xs := by
  obtain ⟨m, rfl⟩ : ∃ m, n = m + 1 := ⟨n - 1, by omega⟩
  rw [Nat.add_sub_cancel] at hz ⊢
  rw [take_snoc xs m oM, val_snoc, hz] at hv
  omega
theorem val_take_succ {xs : List Nat} {k : Nat} (h : k < xs.length) : val (xs.take (k + 1)) = val (xs.take k) + 4294967296 ^ k * xs.getD k default := by
  rw [take_snoc xs k h, val_snoc, List.length_take, Nat.min_eq_left oM]
theorem val_take_all {xs : List Nat} {k : Nat} (h : xs.length ≤ k) : val (xs.take k) = val xs := by rw [List.take_of_length_le h]
def dig (xs : List Nat) (k : Nat) : Nat := if k < xs.length then xs.getD k default else 0
theorem val_take_dig (xs : List Nat) (k : Nat) : val (xs.take (k + 1)) = val (xs.take k) + 4294967296 ^ k * dig xs k := by
  unfold dig
  split
  · next h => exact val_take_succ h
  rw [val_take_all oM, val_take_all oM]; rfl
theorem dig_t {xs : List Nat} {k : Nat} (h : k < xs.length) : dig xs k = xs.getD k default := if_pos h
theorem dig_f {xs : List Nat} {k : Nat} (h : ¬ k < xs.length) : dig xs k = 0 := if_neg h
theorem dig_lt {xs : List Nat} (h : Lm xs) (k : Nat) : dig xs k < 4294967296 := by
  unfold dig
  split
  · next hk => exact h.at hk
  decide
theorem digs_len_le {n k : Nat} (h : n < 4294967296 ^ k) : (digs n).length ≤ k := by
  induction k generalizing n with
  | zero => have : n = 0 := by simpa using h
            subst this; simp [digs_zero]
  | succ k ih =>
    by_cases h0 : n = 0
    · subst h0; simp [digs_zero]
    rw [digs_pos h0, List.length_cons]
    have := @ih (n / 4294967296) (by rw [Nat.pow_succ] at h; exact Nat.div_lt_of_lt_mul (by rw [Nat.mul_comm]; exact h))
    omega
theorem lt_len (n : Nat) : n < 4294967296 ^ len n := by
  have := val_lt (digs_lm n)
  rwa [val_digs] at this
theorem len_le_of {xs : List Nat} (h : Lm xs) : len (val xs) ≤ xs.length := digs_len_le (val_lt h)
theorem len_digs (n : Nat) : (digs n).length = len n := rfl
theorem len_mono {m n : Nat} (h : m ≤ n) : len m ≤ len n := digs_len_le (Nat.lt_of_le_of_lt h (lt_len n))
theorem pow_len_le {n : Nat} (h : n ≠ 0) : 4294967296 ^ (len n - 1) ≤ n := by
  rcases Nat.lt_or_ge n (4294967296 ^ (len n - 1)) with h1 | h1
  · have h2 := digs_len_le h1
    rw [len_digs] at h2
    have : len n ≠ 0 := by unfold len; rw [digs_pos h]; simp
    omega
  exact h1
theorem len_lt_of {m n : Nat} (h : len m < len n) : m < n := by
  have h1 := lt_len m
  have h2 : 4294967296 ^ len m ≤ 4294967296 ^ (len n - 1) := Nat.pow_le_pow_right dC oM
  have h3 := pow_len_le (n := n) (fun h0 => by subst h0; simp [len, digs_zero] at h)
  omega
theorem len_zero {n : Nat} : len n = 0 ↔ n = 0 := by
  constructor
  · intro h; have := lt_len n; rw [h] at this; simpa using this
  rintro rfl; rfl
theorem len_add (m n : Nat) : len (m + n) ≤ max (len m) (len n) + 1 := by
  refine digs_len_le ?_
  have h1 := lt_len m
  have h2 := lt_len n
  have h3 : 4294967296 ^ len m ≤ 4294967296 ^ max (len m) (len n) := Nat.pow_le_pow_right dC oM
  have h4 : 4294967296 ^ len n ≤ 4294967296 ^ max (len m) (len n) := Nat.pow_le_pow_right dC oM
  rw [Nat.pow_succ]
  omega
theorem len_mul (m n : Nat) : len (m * n) ≤ len m + len n := by
  refine digs_len_le ?_
  rw [Nat.pow_add]
  exact Nat.mul_lt_mul'' (lt_len m) (lt_len n)
def fillN (P : List Nat) (m : Nat) : List Nat := P ++ List.replicate (m - P.length) 0
theorem fillN_nil (m : Nat) : fillN [] m = List.replicate m 0 := by simp [fillN]
theorem fillN_set {P : List Nat} {m k u : Nat} (hk : P.length = k) (h : k < m) : (fillN P m).set k u = fillN (P ++ [u]) m := by
  unfold fillN
  subst hk
  rw [List.set_append_right _ _ (Nat.le_refl _), Nat.sub_self]
  obtain ⟨q, hq⟩ : ∃ q, m - P.length = q + 1 := ⟨m - P.length - 1, by omega⟩
  rw [hq, List.replicate_succ, List.length_append, show m - (P.length + [u].length) = q by simp; omega]
  simp
theorem fillN_full {P : List Nat} {m : Nat} (h : P.length = m) : fillN P m = P := by simp [fillN, h]
theorem mul_mod_div (p s : Nat) : p * (s % 4294967296) + 4294967296 * p * (s / 4294967296) = p * s := by
  rw [Nat.mul_comm 4294967296 p, Nat.mul_assoc, ← Nat.mul_add, Nat.mod_add_div]
theorem add_step {P : List Nat} {k c x y A B : Nat} (hP : P.length = k) (h : val P + 4294967296 ^ k * c = A + B) :
    val (P ++ [(c + x + y) % 4294967296]) + 4294967296 ^ (k + 1) * ((c + x + y) / 4294967296) = (A + 4294967296 ^ k * x) + (B + 4294967296 ^ k * y) := by
  rw [val_snoc, hP, Nat.pow_succ]
  have h1 := mul_mod_div (4294967296 ^ k) (c + x + y)
  rw [Nat.mul_comm 4294967296] at h1
  rw [Nat.mul_add, Nat.mul_add] at h1
  omega
theorem add_end {P : List Nat} {m c A B n : Nat} (hP : P.length = m) (hm : m = n + 1) (h : val P + 4294967296 ^ m * c = A + B) (hA : A < 4294967296 ^ n) (hB : B < 4294967296 ^ n) : val P = A + B := by
  have h1 : 4294967296 ^ m = 4294967296 ^ n * 4294967296 := by rw [hm, Nat.pow_succ]
  rcases Nat.eq_zero_or_pos c with h0 | h0
  · subst h0; omega
  have : 4294967296 ^ m * 1 ≤ 4294967296 ^ m * c := Nat.mul_le_mul_left _ h0
  omega
theorem sub_step {P : List Nat} {k c x y A B : Nat} (hP : P.length = k) (h : val P + B = A + 4294967296 ^ k * c) (hx : x < 4294967296) (hy : y < 4294967296) (hc : c ≤ 1) :
    val (P ++ [(x + 4294967296 - (c + y)) % 4294967296]) + (B + 4294967296 ^ k * y) = (A + 4294967296 ^ k * x) + 4294967296 ^ (k + 1) * (if x < c + y then 1 else 0) := by
  rw [val_snoc, hP, Nat.pow_succ]
  have e : ∀ p : Nat, p * ((x + 4294967296 - (c + y)) % 4294967296) + p * (c + y) = p * x + p * (4294967296 * if x < c + y then 1 else 0) := fun p => by
    rw [← Nat.mul_add, ← Nat.mul_add]
    congr 1
    split <;> omega
  have h1 := e (4294967296 ^ k)
  rw [Nat.mul_add _ c y, ← Nat.mul_assoc] at h1
  omega
theorem mul_step {P : List Nat} {k c o x y A : Nat} (hP : P.length = k) (h : val P + 4294967296 ^ k * c = A) :
    val (P ++ [(c + (o + x * y)) % 4294967296]) + 4294967296 ^ (k + 1) * ((c + (o + x * y)) / 4294967296) = A + 4294967296 ^ k * o + x * (4294967296 ^ k * y) := by
  rw [val_snoc, hP, Nat.pow_succ]
  have h1 := mul_mod_div (4294967296 ^ k) (c + (o + x * y))
  rw [Nat.mul_comm 4294967296] at h1
  rw [Nat.mul_add, Nat.mul_add, Nat.mul_left_comm _ x y] at h1
  omega
end Go.Vm
namespace Go.Vm
theorem drop_at {a : List Nat} {m : Nat} (h : m < a.length) : a.drop m = a.getD m default :: a.drop (m + 1) := drop_cons a m h
theorem val_split (a : List Nat) {m : Nat} (h : m ≤ a.length) : val a = val (a.take m) + 4294967296 ^ m * val (a.drop m) := by
  have := val_append (a.take m) (a.drop m)
  rw [List.take_append_drop, List.length_take, Nat.min_eq_left h] at this
  exact this
theorem cmp_at {a b : List Nat} {m : Nat} (ha : Lm a) (hl : a.length = b.length) (hm : m < a.length) (hd : a.drop (m + 1) = b.drop (m + 1)) (hx : a.getD m default < b.getD m default) : val a < val b := by
  rw [val_split a (Nat.le_of_lt hm), val_split b (show m ≤ b.length by omega), drop_at hm, drop_at (show m < b.length by omega), hd]
  have h1 := val_lt (ha.take m)
  rw [List.length_take, Nat.min_eq_left oM] at h1
  show _ + 4294967296 ^ m * (a.getD m default + 4294967296 * val (b.drop (m + 1))) < _ + 4294967296 ^ m * (b.getD m default + 4294967296 * val (b.drop (m + 1)))
  have h2 : 4294967296 ^ m * (a.getD m default + 1 + 4294967296 * val (b.drop (m + 1))) ≤ 4294967296 ^ m * (b.getD m default + 4294967296 * val (b.drop (m + 1))) := Nat.mul_le_mul_left _ oM
  rw [show a.getD m default + 1 + 4294967296 * val (b.drop (m + 1)) = (a.getD m default + 4294967296 * val (b.drop (m + 1))) + 1 by omega, Nat.mul_add, Nat.mul_one] at h2
  omega
theorem drop_step {a b : List Nat} {n : Nat} (h0 : 0 < n) (ha : n ≤ a.length) (hb : n ≤ b.length) (hd : a.drop n = b.drop n) (hx : a.getD (n - 1) default = b.getD (n - 1) default) : a.drop (n - 1) = b.drop (n - 1) := by
  obtain ⟨m, rfl⟩ : ∃ m, n = m + 1 := ⟨n - 1, by omega⟩
  rw [Nat.add_sub_cancel] at hx ⊢
  rw [drop_at oM, drop_at (show m < b.length by omega), hx, hd]
theorem val_two (x : Nat) : val [x % 4294967296, x / 4294967296] = x := by simp [val]; omega
theorem Lm.two {x : Nat} (h : x < 18446744073709551616) : Lm [x % 4294967296, x / 4294967296 % 4294967296] := by
  intro y hy
  simp at hy
  omega
theorem len_u64 {n : Nat} : n < 18446744073709551616 ↔ len n ≤ 2 := by
  constructor
  · intro h; exact digs_len_le (k := 2) oM
  intro h
  have h1 := lt_len n
  have h2 : 4294967296 ^ len n ≤ 4294967296 ^ 2 := Nat.pow_le_pow_right dC h
  omega
theorem val_drop_cons {a : List Nat} {n : Nat} (h0 : 0 < n) (h : n ≤ a.length) : val (a.drop (n - 1)) = a.getD (n - 1) default + 4294967296 * val (a.drop n) := by
  obtain ⟨m, rfl⟩ : ∃ m, n = m + 1 := ⟨n - 1, by omega⟩
  rw [Nat.add_sub_cancel, drop_at oM]
  rfl
theorem getD_ext {l m : List Nat} (hl : l.length = m.length) (h : ∀ j, j < l.length → l.getD j default = m.getD j default) : l = m := by
  apply List.ext_getElem hl
  intro j h1 h2
  have := h j h1
  simpa [h1, h2] using this
end Go.Vm
namespace Go.Vm
theorem add_fin {x y P : List Nat} {k c : Nat} (lx : Lm x) (ly : Lm y) (hP : P.length = k) (hk : k = max x.length y.length + 1) (hv : val P + 4294967296 ^ k * c = val (x.take k) + val (y.take k)) : val P = val x + val y := by
  rw [val_take_all oM, val_take_all oM] at hv
  refine add_end hP hk hv ?_ ?_
  · exact Nat.lt_of_lt_of_le (val_lt lx) (Nat.pow_le_pow_right dC oM)
  exact Nat.lt_of_lt_of_le (val_lt ly) (Nat.pow_le_pow_right dC oM)
theorem sub_fin {x y P : List Nat} {k c : Nat} (lP : Lm P) (hP : P.length = k) (hx : x.length ≤ k) (hy : y.length ≤ k) (hxy : val y ≤ val x) (hv : val P + val (y.take k) = val (x.take k) + 4294967296 ^ k * c) : val P = val x - val y := by
  rw [val_take_all hx, val_take_all hy] at hv
  have h1 := val_lt lP
  rw [hP] at h1
  rcases Nat.eq_zero_or_pos c with h0 | h0
  · subst h0; omega
  have : 4294967296 ^ k * 1 ≤ 4294967296 ^ k * c := Nat.mul_le_mul_left _ h0
  omega
theorem limb_mul {x y : Nat} (hx : x < 4294967296) (hy : y < 4294967296) : x * y ≤ 18446744065119617025 := by
  have h1 : x * y ≤ 4294967295 * y := Nat.mul_le_mul_right _ oM
  omega
def rowN (O Q : List Nat) (i : Nat) : List Nat := O.take i ++ Q ++ O.drop (i + Q.length)
theorem rowN_nil (O : List Nat) (i : Nat) : rowN O [] i = O := by simp [rowN]
theorem rowN_at {O Q : List Nat} {i k : Nat} (hQ : Q.length = k) (hi : i + k < O.length) : (rowN O Q i).getD (i + k) default = O.getD (i + k) default := by
  unfold rowN
  rw [List.getD_eq_getElem?_getD, List.getD_eq_getElem?_getD, List.getElem?_append_right (by simp; omega)]
  simp only [List.length_append, List.length_take, List.getElem?_drop]
  rw [hQ, show i + k + (i + k - (min i O.length + k)) = i + k by omega]
theorem rowN_set {O Q : List Nat} {i k u : Nat} (hQ : Q.length = k) (hi : i + k < O.length) : (rowN O Q i).set (i + k) u = rowN O (Q ++ [u]) i := by
  unfold rowN
  rw [List.set_append_right _ _ (by simp; omega), List.append_assoc (O.take i), List.append_assoc (O.take i), List.append_assoc Q]
  congr 2
  simp only [List.length_append, List.length_take, List.length_singleton]
  rw [show i + k - (min i O.length + Q.length) = 0 by omega, hQ, drop_at hi]
  rfl
theorem length_rowN {O Q : List Nat} {i : Nat} (h : i + Q.length ≤ O.length) : (rowN O Q i).length = O.length := by simp [rowN]; omega
theorem rowN_lm {O Q : List Nat} {i : Nat} (hO : Lm O) (hQ : Lm Q) : Lm (rowN O Q i) := ((hO.take i).append hQ).append (hO.drop _)
theorem mul_row {O x y Q : List Nat} {i n c : Nat} (hi : i < x.length) (hQ : Q.length = y.length) (hO : O.length = x.length + y.length) (h1 : val (O.take (i + y.length)) = val (x.take i) * val y)
    (h2 : val Q + 4294967296 ^ y.length * c = val ((O.drop i).take y.length) + x.getD i default * val y) :
    val ((rowN O (Q ++ [c]) i).take (i + 1 + y.length)) = val (x.take (i + 1)) * val y := by
  have e : (rowN O (Q ++ [c]) i).take (i + 1 + y.length) = O.take i ++ (Q ++ [c]) := by
    unfold rowN
    rw [List.take_append_of_le_length (by simp; omega)]
    exact List.take_of_length_le (by simp; omega)
  have e2 : O.take (i + y.length) = O.take i ++ (O.drop i).take y.length := by rw [List.take_add]
  rw [e2, val_append, List.length_take, Nat.min_eq_left oM] at h1
  rw [e, val_append, List.length_take, Nat.min_eq_left oM, val_snoc, hQ, h2, Nat.mul_add, val_take_succ hi, Nat.add_mul, ← h1, Nat.mul_assoc]
  omega
theorem rowN_zeros {O Q : List Nat} {i m : Nat} (hQ : Q.length = m + 1) (hO : i + m < O.length) (hz : ∀ j, i + m ≤ j → j < O.length → O.getD j default = 0) : ∀ j, i + 1 + m ≤ j → j < (rowN O Q i).length → (rowN O Q i).getD j default = 0 := by
  intro j h1 h2
  rw [length_rowN oM] at h2
  have h3 := hz j oM h2
  unfold rowN
  rw [List.getD_eq_getElem?_getD, List.getElem?_append_right (by simp; omega)]
  simp only [List.length_append, List.length_take, List.getElem?_drop]
  rw [hQ, show i + (m + 1) + (j - (min i O.length + (m + 1))) = j by omega]
  rw [List.getD_eq_getElem?_getD] at h3
  exact h3
end Go.Vm
namespace Go.Vm
theorem mul_row_step {O y Q : List Nat} {i k c xi : Nat} (hQ : Q.length = k) (hk : k < y.length) (hO : i + k < O.length) (h : val Q + 4294967296 ^ k * c = val ((O.drop i).take k) + xi * val (y.take k)) :
    val (Q ++ [(c + (O.getD (i + k) default + xi * y.getD k default)) % 4294967296]) + 4294967296 ^ (k + 1) * ((c + (O.getD (i + k) default + xi * y.getD k default)) / 4294967296) = val ((O.drop i).take (k + 1)) + xi * val (y.take (k + 1)) := by
  have h1 := mul_step (o := O.getD (i + k) default) (x := xi) (y := y.getD k default) hQ h
  have h2 := val_take_succ (xs := O.drop i) (k := k) (by rw [List.length_drop]; omega)
  rw [show (O.drop i).getD k default = O.getD (i + k) default by simp [List.getD_eq_getElem?_getD]] at h2
  rw [h1, h2, val_take_succ hk, Nat.mul_add]
  omega
end Go.Vm
namespace Go.Vm
theorem pow32 (m : Nat) : 4294967296 ^ m = 2 ^ (32 * m) := by rw [show (4294967296 : Nat) = 2 ^ 32 from rfl, ← Nat.pow_mul]
theorem bits_law {X : List Nat} {s : Nat} (hX : Lm X) (h0 : 0 < X.length) (hs : X.getD (X.length - 1) default / 2 ^ s = 0) : val X < 2 ^ (32 * (X.length - 1) + s) := by
  have h1 : X.getD (X.length - 1) default < 2 ^ s := by
    rcases Nat.lt_or_ge (X.getD (X.length - 1) default) (2 ^ s) with h | h
    · exact h
    have := Nat.div_pos h (Nat.two_pow_pos s); omega
  have h2 := val_lt (hX.take (X.length - 1))
  rw [List.length_take, Nat.min_eq_left oM] at h2
  rw [val_split X (show X.length - 1 ≤ X.length by omega), drop_at oM, List.drop_of_length_le oM]
  show _ + 4294967296 ^ (X.length - 1) * (X.getD (X.length - 1) default + 4294967296 * 0) < _
  rw [Nat.pow_add, ← pow32]
  have h3 : 4294967296 ^ (X.length - 1) * (X.getD (X.length - 1) default + 1) ≤ 4294967296 ^ (X.length - 1) * 2 ^ s := Nat.mul_le_mul_left _ h1
  rw [Nat.mul_add, Nat.mul_one] at h3
  rw [Nat.mul_zero, Nat.add_zero]
  omega
theorem bit_law {x : List Nat} (hx : Lm x) (i : Nat) : dig x (i / 32) / 2 ^ (i % 32) % 2 = val x / 2 ^ i % 2 := by
  have hi : i = 32 * (i / 32) + i % 32 := by omega
  have hs : i % 32 < 32 := by omega
  generalize i / 32 = q at *
  generalize i % 32 = s at *
  subst hi
  rw [Nat.pow_add, ← pow32, ← Nat.div_div_eq_div_mul]
  have h1 : val x / 4294967296 ^ q = dig x q + 4294967296 * val (x.drop (q + 1)) := by
    rcases Nat.lt_or_ge q x.length with h | h
    · rw [val_split x (Nat.le_of_lt h), drop_at h, dig_t h]
      have h2 := val_lt (hx.take q)
      rw [List.length_take, Nat.min_eq_left oM] at h2
      rw [Nat.add_mul_div_left _ _ (Nat.pow_pos dC), Nat.div_eq_of_lt h2, Nat.zero_add]
      rfl
    rw [dig_f oM, List.drop_of_length_le oM]
    have h2 := val_lt hx
    have h3 : 4294967296 ^ x.length ≤ 4294967296 ^ q := Nat.pow_le_pow_right dC h
    rw [Nat.div_eq_of_lt oM]
    rfl
  rw [h1]
  obtain ⟨t, ht⟩ : ∃ t, 32 = s + 1 + t := ⟨31 - s, by omega⟩
  have h4 : (4294967296 : Nat) = 2 ^ s * (2 * 2 ^ t) := by
    rw [show (4294967296 : Nat) = 2 ^ 32 from rfl, ht, Nat.pow_add, Nat.pow_add, Nat.pow_one, Nat.mul_assoc]
  rw [h4, Nat.mul_assoc (2 ^ s), Nat.add_mul_div_left _ _ (Nat.two_pow_pos s), Nat.mul_assoc 2]
  omega
theorem or_bit {a s : Nat} (h : a / 2 ^ s % 2 = 0) : a ||| 2 ^ s = a + 2 ^ s := by
  have h1 := Nat.mod_pow_succ (b := 2) (k := s) (x := a)
  rw [h, Nat.mul_zero, Nat.add_zero] at h1
  have h2 : a % 2 ^ (s + 1) < 2 ^ s := by rw [h1]; exact Nat.mod_lt _ (Nat.two_pow_pos s)
  have h3 := Nat.div_add_mod a (2 ^ (s + 1))
  have h4 := Nat.two_pow_add_eq_or_of_lt (i := s + 1) (b := a % 2 ^ (s + 1)) (Nat.mod_lt _ (Nat.two_pow_pos _)) (a / 2 ^ (s + 1))
  have h5 := Nat.two_pow_add_eq_or_of_lt (i := s) (b := a % 2 ^ (s + 1)) h2 1
  rw [Nat.mul_one] at h5
  have h6 : 2 ^ (s + 1) = 2 ^ s + 2 ^ s := by rw [Nat.pow_succ]; omega
  have h7 := Nat.two_pow_add_eq_or_of_lt (i := s + 1) (b := 2 ^ s + a % 2 ^ (s + 1)) oM (a / 2 ^ (s + 1))
  clear h1
  generalize 2 ^ (s + 1) * (a / 2 ^ (s + 1)) = A at *
  generalize a % 2 ^ (s + 1) = l at *
  have e1 : a ||| 2 ^ s = (A ||| l) ||| 2 ^ s := by rw [← h4, h3]
  rw [e1, Nat.or_assoc, Nat.or_comm l, ← h5, ← h7]
  omega
theorem val_set {O : List Nat} {q u : Nat} (h : q < O.length) : val (O.set q u) + 4294967296 ^ q * O.getD q default = val O + 4294967296 ^ q * u := by
  have e : O.set q u = O.take q ++ u :: O.drop (q + 1) := by rw [List.set_eq_take_append_cons_drop, if_pos h]
  rw [e, val_append, List.length_take, Nat.min_eq_left oM, val_split O (Nat.le_of_lt h), drop_at h]
  show _ + 4294967296 ^ q * (u + 4294967296 * val (O.drop (q + 1))) + _ = _ + 4294967296 ^ q * (O.getD q default + 4294967296 * val (O.drop (q + 1))) + _
  rw [Nat.mul_add, Nat.mul_add]
  omega
theorem setbit {O : List Nat} {i : Nat} (hO : Lm O) (hi : i / 32 < O.length) (hd : val O % 2 ^ (i + 1) = 0) :
    O.getD (i / 32) default ||| 2 ^ (i % 32) = O.getD (i / 32) default + 2 ^ (i % 32) ∧ O.getD (i / 32) default + 2 ^ (i % 32) < 4294967296 ∧ val (O.set (i / 32) (O.getD (i / 32) default + 2 ^ (i % 32))) = val O + 2 ^ i := by
  have hb : val O / 2 ^ i % 2 = 0 := by
    have h1 := Nat.mod_pow_succ (b := 2) (k := i) (x := val O)
    rw [hd] at h1
    rcases Nat.eq_zero_or_pos (val O / 2 ^ i % 2) with h | h
    · exact h
    have : 2 ^ i * 1 ≤ 2 ^ i * (val O / 2 ^ i % 2) := Nat.mul_le_mul_left _ h
    have := Nat.two_pow_pos i
    omega
  have ha := bit_law hO i
  rw [hb, dig_t hi] at ha
  refine ⟨or_bit ha, ?_, ?_⟩
  · have h1 := hO.at hi
    rw [← or_bit ha]
    exact Nat.or_lt_two_pow (n := 32) h1 (Nat.pow_lt_pow_right dC oM)
  have h1 := val_set (u := O.getD (i / 32) default + 2 ^ (i % 32)) hi
  rw [Nat.mul_add] at h1
  have h2 : 2 ^ i = 4294967296 ^ (i / 32) * 2 ^ (i % 32) := by rw [pow32, ← Nat.pow_add]; congr 1; omega
  omega
theorem div_next {n i Qn b r : Nat} (h : n / 2 ^ (i + 1) = Qn * b + r) : n / 2 ^ i = 2 * Qn * b + (r + r + n / 2 ^ i % 2) := by
  rw [Nat.pow_succ, ← Nat.div_div_eq_div_mul] at h
  have h1 : 2 * Qn * b = Qn * b + Qn * b := by rw [Nat.mul_assoc]; omega
  omega
theorem div_fin {n b Qn r : Nat} (h : n = Qn * b + r) (hr : r < b) : Qn = n / b ∧ r = n % b := by
  subst h
  rw [Nat.mul_comm, Nat.mul_add_div oM, Nat.mul_add_mod, Nat.div_eq_of_lt hr, Nat.mod_eq_of_lt hr]
  exact ⟨rfl, rfl⟩
def modZ (x y : Nat) : Nat := if y = 0 then 0 else x % y
end Go.Vm
namespace Go.Vm
theorem Lm.set {O : List Nat} (h : Lm O) {q u : Nat} (hu : u < 4294967296) : Lm (O.set q u) := fun x hx => by
  rcases List.mem_or_eq_of_mem_set hx with hx | rfl
  · exact h x hx
  exact hu
theorem dm_shift (Q i : Nat) : Q * 2 ^ (i + 1) = 2 * Q * 2 ^ i := by
  rw [Nat.pow_succ, Nat.mul_comm (2 ^ i) 2, ← Nat.mul_assoc, Nat.mul_comm Q 2]
end Go.Vm
namespace Go.Vg
open Go Go.RowKit Go.Vm
theorem cu32 (x : Nat) : IntKind.u32.wrap (x : Int) = ((x % 4294967296 : Nat) : Int) := by rw [wu32m]; omega
theorem shr32 (x : Nat) : (x : Int).fdiv (2 ^ (min (32 : Int).toNat IntKind.u64.bits)) = ((x / 4294967296 : Nat) : Int) := by
  rw [Int.fdiv_eq_ediv_of_nonneg _ dC]
  show (x : Int) / (2 ^ 32 : Int) = _
  omega
theorem shl32 {x : Nat} (h : x < 4294967296) : IntKind.u64.wrap ((x : Int) * 2 ^ (min (32 : Int).toNat IntKind.u64.bits)) = ((x * 4294967296 : Nat) : Int) := by
  show IntKind.u64.wrap ((x : Int) * (2 ^ 32 : Int)) = _
  rw [wu64 oM]
  omega
theorem or32 {x y : Nat} (hx : x < 4294967296) (hy : y < 4294967296) : IntKind.u64.wrap ((BitVec.ofInt IntKind.u64.bits ((x * 4294967296 : Nat) : Int) ||| BitVec.ofInt IntKind.u64.bits (y : Int)).toNat : Int) = ((x * 4294967296 + y : Nat) : Int) := by
  show IntKind.u64.wrap ((BitVec.ofInt 64 ((x * 4294967296 : Nat) : Int) ||| BitVec.ofInt 64 (y : Int)).toNat : Int) = _
  rw [BitVec.ofInt_natCast, BitVec.ofInt_natCast, BitVec.toNat_or, BitVec.toNat_ofNat, BitVec.toNat_ofNat, Nat.mod_eq_of_lt oM, Nat.mod_eq_of_lt oM]
  have h := Nat.two_pow_add_eq_or_of_lt (i := 32) (b := y) oM x
  rw [Nat.mul_comm (2 ^ 32) x] at h
  rw [show x * 4294967296 = x * 2 ^ 32 from rfl, ← h, wu64 oM]
end Go.Vg
namespace Go.Vg
open Go Go.RowKit Go.Vm
theorem shrN32 {x s : Nat} (hs : s < 32) : (x : Int).fdiv (2 ^ (min (s : Int).toNat IntKind.u32.bits)) = ((x / 2 ^ s : Nat) : Int) := by
  rw [Int.toNat_natCast, show min s IntKind.u32.bits = s from Nat.min_eq_left (Nat.le_of_lt hs), Int.fdiv_eq_ediv_of_nonneg _ (Int.le_of_lt (Int.pow_pos dC))]
  simp
theorem shr1u32 (x : Nat) : (x : Int).fdiv (2 ^ (min (1 : Int).toNat IntKind.u32.bits)) = ((x / 2 : Nat) : Int) := by
  have := shrN32 (x := x) (s := 1) dC
  simpa using this
theorem shl1 {s : Nat} (hs : s < 32) : IntKind.u32.wrap ((1 : Int) * 2 ^ (min (s : Int).toNat IntKind.u32.bits)) = ((2 ^ s : Nat) : Int) := by
  rw [Int.toNat_natCast, show min s IntKind.u32.bits = s from Nat.min_eq_left (Nat.le_of_lt hs), Int.one_mul]
  have h : 2 ^ s < 2 ^ 32 := Nat.pow_lt_pow_right dC hs
  rw [show ((2 : Int) ^ s) = ((2 ^ s : Nat) : Int) by simp]
  generalize 2 ^ s = p at *
  exact wu32 oM
theorem orN {a b : Nat} (ha : a < 4294967296) (hb : b < 4294967296) : IntKind.u32.wrap ((BitVec.ofInt IntKind.u32.bits (a : Int) ||| BitVec.ofInt IntKind.u32.bits (b : Int)).toNat : Int) = ((a ||| b : Nat) : Int) := by
  show IntKind.u32.wrap ((BitVec.ofInt 32 (a : Int) ||| BitVec.ofInt 32 (b : Int)).toNat : Int) = _
  rw [BitVec.ofInt_natCast, BitVec.ofInt_natCast, BitVec.toNat_or, BitVec.toNat_ofNat, BitVec.toNat_ofNat, Nat.mod_eq_of_lt oM, Nat.mod_eq_of_lt oM]
  have := Nat.or_lt_two_pow (n := 32) ha hb
  rw [wu32 oM]
theorem and1 {a : Nat} (ha : a < 4294967296) : IntKind.u32.wrap ((BitVec.ofInt IntKind.u32.bits (a : Int) &&& BitVec.ofInt IntKind.u32.bits (1 : Int)).toNat : Int) = ((a % 2 : Nat) : Int) := by
  show IntKind.u32.wrap ((BitVec.ofInt 32 (a : Int) &&& BitVec.ofInt 32 ((1 : Nat) : Int)).toNat : Int) = _
  rw [BitVec.ofInt_natCast, BitVec.ofInt_natCast, BitVec.toNat_and, BitVec.toNat_ofNat, BitVec.toNat_ofNat, Nat.mod_eq_of_lt oM, Nat.mod_eq_of_lt oM, Nat.and_one_is_mod, wu32 oM]
theorem quo32 {i : Nat} (h : i ≤ 4611686018427387904) : IntKind.i64.wrap ((i : Int).tdiv 32) = ((i / 32 : Nat) : Int) := by
  rw [Int.tdiv_eq_ediv_of_nonneg oM, wi64 oM]; omega
theorem rem32 (i : Nat) : (i : Int).tmod 32 = ((i % 32 : Nat) : Int) := by
  rw [Int.tmod_eq_emod_of_nonneg oM]; omega
theorem quoN {a b : Nat} (h : a < 18446744073709551616) : IntKind.u64.wrap ((a : Int).tdiv (b : Int)) = ((a / b : Nat) : Int) := by
  rw [Int.tdiv_eq_ediv_of_nonneg oM, ← Int.natCast_ediv]
  have := Nat.div_le_self a b
  generalize a / b = q at *
  exact wu64 oM
theorem remN (a b : Nat) : (a : Int).tmod (b : Int) = ((a % b : Nat) : Int) := by
  rw [Int.tmod_eq_emod_of_nonneg oM, ← Int.natCast_emod]
end Go.Vg
namespace Go.Vg
open Go Go.RowKit Go.Vm
def isU (u : Value) : Bool := match u with
  | .int .u32 _ => true
  | _ => false
def NoU (l : List Value) : Prop := ∀ u ∈ l, isU u = false
theorem nu_nil : NoU [] := fun _ h => by cases h
theorem nu_cons {u : Value} {l : List Value} (h : isU u = false) (t : NoU l) : NoU (u :: l) := fun z hz => by
  rcases List.mem_cons.1 hz with rfl | hz
  · exact h
  exact t z hz
theorem Sc.nu {D : Nat → TypeId → Prop} {w : World} {size n : Nat} {v : Value} {l : List Value} (h : Sc D w size v n l) : isU v = false := by
  obtain ⟨A, c, rfl, _⟩ := h
  rfl
theorem Sg.nu {α : Type} {g : α → Value} {D : Nat → TypeId → Prop} {w : World} {v : Value} {xs : List α} (h : Sg g D w v xs) : isU v = false := Sc.nu h
theorem Ss.nu {α : Type} {c : α → List Value} {size : Nat} {D : Nat → TypeId → Prop} {w : World} {v : Value} {xs : List α} (h : Ss c size D w v xs) : isU v = false := Sc.nu h.2
theorem Sg.ap {D : Nat → TypeId → Prop} {w w' : World} {v : Value} {xs : List Nat} (h : Sg (gN .u32) D w v xs) {b : Nat} {T : TypeId} {l : List Value} (e : Exc b w w') (hb : Bk w b T l) (hl : NoU l) : Sg (gN .u32) D w' v xs := by
  obtain ⟨A, c, rfl, h1, h2, h3, h4⟩ := h
  refine ⟨A, c, rfl, h1, h2, h3, ?_⟩
  by_cases hne : xs = []
  · exact .inl (by rw [hne]; rfl)
  rcases h4 with h4 | ⟨b', o, rfl, hr⟩
  · exact .inl h4
  right
  refine ⟨b', o, rfl, ?_⟩
  rcases hr with hr | ⟨cs, T', fz, hh, hd, hc⟩
  · exact .inl hr
  right
  refine ⟨cs, T', fz, ?_, hd, hc⟩
  cases xs with
  | nil => exact absurd rfl hne
  | cons x xs =>
    have h0 := hc 0 (gN .u32 x) rfl
    by_cases hb' : b' = b
    · subst hb'
      rw [show w.heap[b']? = _ from hb] at hh
      injection hh with hh
      injection hh with hcs _ _
      subst hcs
      have hm : gN .u32 x ∈ l := by
        have : l[o + 0]? = some (gN .u32 x) := by simpa using h0
        exact List.mem_of_getElem? this
      have := hl _ hm
      cases this
    exact (e.block b' (lt_of_heap hh) hb').trans hh
end Go.Vg
namespace Go.Vg
open Go Go.RowKit Go.Vm
theorem Sg.fr {w0 w w' : World} {U : TypeId} {v : Value} {xs : List Nat} (h : Sg (gN .u32) (fun b T => w.heap.size ≤ b ∧ T = U) w' v xs) (hE : Below w0.heap.size w0 w) : Sg (gN .u32) (fun b T => w0.heap.size ≤ b ∧ T = U) w' v xs := h.mono fun _ _ h => ⟨Nat.le_trans hE.size h.1, h.2⟩
end Go.Vg
namespace Go.Vg
open Go Go.RowKit Go.Vm
section
variable {P : Program} {f : Nat → Value} {w : World} {dst : Option Tmp} {ty : TypeId} {pos : String} {aft : Array Edge} {gd : Option (Nat × Bool)} {x y : Operand} {t t' e : TypeId} {D : Nat → TypeId → Prop}
theorem h_copyA {α : Type} {g : α → Value} {b n cap bytes : Nat} {zz v2 : Value} {xs ys : List α} (hu : P.underlying t = some (.slice e)) (ht : TyI P e 1 bytes zz) (hx : ev f x = .slice (some ⟨b, 0, none⟩) n cap) (hy : ev f y = v2)
    (ha : Ar g w b e 0 ys n) (hs : Sg g D w v2 xs) (hn : xs.length = n) (h1 : ∀ z, (g z).oneCell' = true) :
    Run P f ⟨dst, .call ⟨.builtin .copy, #[x, y], #[t, t']⟩, ty, pos, aft, gd⟩ w fun v w' => v = .int .i64 (xs.length : Nat) ∧ Ar g w' b e 0 xs n ∧ Exc b w w' := by
  obtain ⟨⟨pre, post, hp, hb⟩, hl⟩ := ha
  have hp0 : pre = [] := List.eq_nil_of_length_eq_zero hp
  subst hp0
  obtain ⟨v, w', hr, h2, h3, h4⟩ := h_copy (P := P) (f := f) (dst := dst) (ty := ty) (pos := pos) (aft := aft) (g := gd) (t' := t') (n := xs.length) (o := 0) hu ht hx hy hb hs oM rfl (fun u hu => by obtain ⟨z, -, rfl⟩ := List.mem_map.1 hu; exact h1 z) (by simp; omega)
  refine ⟨v, w', hr, h2, ⟨⟨[], post, rfl, ?_⟩, hn⟩, h4⟩
  have e1 : spl ([] ++ ys.map g ++ post) 0 (xs.map g) = [] ++ xs.map g ++ post := by
    unfold spl
    simp only [List.take_zero, List.nil_append, Nat.zero_add, List.length_map]
    rw [List.drop_append, List.drop_of_length_le (by simp; omega)]
    simp [show xs.length - ys.length = 0 by omega]
  rw [e1] at h3
  exact h3
end
end Go.Vg
namespace Go.Vg
open Go Go.RowKit Go.Vm
def Ag {α : Type} (g : α → Value) (w : World) (b : Nat) (T : TypeId) (pre : List Value) (xs : List α) (post : List Value) (n : Nat) : Prop := Bk w b T (pre ++ xs.map g ++ post) ∧ xs.length = n
section
variable {α : Type} {g : α → Value} {w w' : World} {b n : Nat} {T : TypeId} {pre post : List Value} {xs : List α}
theorem Ag.ar (h : Ag g w b T pre xs post n) : Ar g w b T pre.length xs n := ⟨⟨pre, post, rfl, h.1⟩, h.2⟩
theorem Ag.ext (h : Ag g w b T pre xs post n) (e : Ext w w') : Ag g w' b T pre xs post n := ⟨h.1.ext e, h.2⟩
theorem Ag.lt (h : Ag g w b T pre xs post n) : b < w.heap.size := h.1.lt
theorem Ag.cell [Inhabited α] (h : Ag g w b T pre xs post n) {i : Int} (k : Nat) (hi : i = (k : Int)) (hk : k < n) : w.cell? ⟨b, pre.length + i.toNat * 1, none⟩ = some (g (xs.getD k default)) := h.ar.cell k hi hk
theorem Ag.sm {D : Nat → TypeId → Prop} (h : Ag g w b T pre xs post n) (e : Exc b w w') (hD : ¬ D b T) : Sm D w w' := h.1.sm e hD
end
section
variable {P : Program} {f : Nat → Value} {w : World} {dst : Option Tmp} {ty : TypeId} {pos : String} {aft : Array Edge} {gd : Option (Nat × Bool)} {x y z : Operand} {t e : TypeId}
theorem h_setG {α : Type} {g : α → Value} {T : TypeId} {b n bytes : Nat} {pre post : List Value} {xs : List α} {u : α} {i : Int} {vv zz : Value} (ht : TyI P t 1 bytes zz) (hx : ev f x = .pointer (some ⟨b, pre.length + i.toNat * 1, none⟩)) (hy : ev f y = vv) (hv : vv = g u) (hc : (g u).cells = #[g u]) (h1 : (g u).oneCell' = true)
    (ha : Ag g w b T pre xs post n) (k : Nat) (hi : i = (k : Int)) (hk : k < n) :
    RunS P f ⟨dst, .store t x y, ty, pos, aft, gd⟩ w fun w' => Ag g w' b T pre (xs.set k u) post n ∧ Exc b w w' := by
  obtain ⟨h3, h4⟩ := ha
  subst hi hv
  have hk' : k < xs.length := by rw [h4]; exact hk
  obtain ⟨w', hr, h5, h6, _⟩ := h_store (P := P) (f := f) (dst := dst) (ty := ty) (pos := pos) (aft := aft) (g := gd) (cs := [g u]) ht hx hy hc rfl (by simpa using h1) h3 (by simp; omega)
  refine ⟨w', hr, ⟨?_, by simpa using h4⟩, h6⟩
  have e : ((k : Int)).toNat = k := Int.toNat_natCast k
  rw [e, spl_set g pre post xs k u hk'] at h5
  exact h5
end
end Go.Vg
namespace Go.Proofs.YtelbjmhhbeijkaaGreat
open Go.Vg Go.RowKit _root_.Go.Proofs.Tryz
set_option linter.unusedVariables false
open Go.Vm
set_option maxHeartbeats 1000000 in
theorem r01_trim {w : World} {Dx : Nat → TypeId → Prop} {vx : Value} {x : List Nat} (hx : Sg (gN .u32) Dx w vx x) (lmx : Lm x) (lnx : x.length ≤ 17592186044416) :
    Calls Tryz.prog 112 #[vx] w fun e w' => ∃ v, e = .returned v ∧ Sg (gN .u32) (fun b T => w.heap.size ≤ b ∧ T = 89) w' v (digs (val x)) ∧ Ext w w' := by
 have hE : Below w.heap.size w w := Below.refl _ _
 refine calls_of (n := 23) (rs := [.tmp 2]) func112 rfl rfl rfl bL ?_
 refine wset fun F0 hF0 => ?_
 refine wsr (aS (v := (.slice none (0) (0))) rfl (RL.nil (wsr (mV (v := vx) (hF0 0) ?_))))
 obtain ⟨A1, c2, hv3, hc4, hc5⟩ := hx.len
 refine rV (r_len uT40 hv3) (aS (v := (iv (x.length : Nat))) rfl (RL.nil (wseq ?_)))
 refine wblock ?_
 refine wset fun F6 hF7 => ?_
 refine wloop (σ := Nat) (fun (n : Nat) fl wl => Off (3 :: (rg 6 12 [])) F6 fl ∧ fl 3 = (iv n) ∧ (n ≤ x.length) ∧ (val (x.take n) = val x) ∧ (Sg (gN .u32) Dx wl vx x) ∧ (Below w.heap.size w wl) ∧ (w.heap.size ≤ wl.heap.size)) (fun (n : Nat) => n) (x.length) ?_ ?_
 ·exact ⟨Off.refl _ _, (hF7 3).trans (rfl), Nat.le_refl _, by rw [List.take_of_length_le (Nat.le_refl _)], hx, hE, Nat.le_refl _⟩
 clear hx hE
 rintro n f9 w10 ⟨G11, hs12, hn, hv, hx, hE, hz8⟩
 refine wseq (wsr (mV hs12 (rV (r_gtr (k := .i64) (a := (n : Int)) (b := 0) rfl rfl) (mV (v := (bd (0 < (n : Int)))) rfl ?_))))
 rcases bD (0 < (n : Int)) with ⟨hb13, hb13p⟩ | ⟨hb13, hb13p⟩
 ·refine RL.gval rfl rfl (bool_eq hb13) rfl dC (r_move_as (v := vx) ((G11 0 rfl).trans ((hF7 0).trans (hF0 0)))) ?_
  refine RL.gval rfl rfl (bool_eq hb13) rfl dC (r_move_as (v := (iv n)) hs12) ?_
  refine RL.gval rfl rfl (bool_eq hb13) rfl dC (r_sub (k := .i64) (a := (n : Int)) (b := 1) (c := (n : Int) - 1) rfl rfl (wi64 oM)) ?_
  obtain ⟨b14, o15, c16, hv17, hc18⟩ := hx.ix (i := (n : Int) - 1) (n - 1) oM oM
  refine RL.gval rfl rfl (bool_eq hb13) rfl dC (r_indexAddr (i := (n : Int) - 1) uT40 ty89 hv17 rfl oM oM) ?_
  refine RL.gval rfl rfl (bool_eq hb13) rfl dC (r_load (v := (.int .u32 (((x.getD (n - 1) default : Nat) : Int)))) uT89 ag89 rfl hc18) ?_
  refine RL.gval rfl rfl (bool_eq hb13) rfl dC (r_eql (k := .u32) (a := ((x.getD (n - 1) default : Nat) : Int)) (b := 0) rfl rfl) ?_
  refine rV (r_pick_t (v := (bd (((x.getD (n - 1) default : Nat) : Int) = 0))) (bool_eq hb13) rfl) (RL.nil ?_)
  refine wcD (p := ((x.getD (n - 1) default : Nat) : Int) = 0) rfl (fun hb19 hb19p => ?_) (fun hb19 hb19p => ?_)
  ·refine wskip ?_
   refine wblock ?_
   refine wregion (mV hs12 (rV (r_sub (k := .i64) (a := (n : Int)) (b := 1) (c := (n : Int) - 1) rfl rfl (wi64 oM)) (aS (v := (iv ((n : Int) - 1))) rfl (RL.nil ?_))))
   refine ⟨(n - 1), ⟨?_, ?_, ?_, ?_, ?_, ?_, ?_⟩, ?_⟩
   · exact (by repeat (first | exact G11 | refine Off.st ?_ dC _))
   · first | rfl | exact int_eq oM | exact bool_eq (by simp)
   · omega
   · exact trim_step hn oM hv oM
   · exact hx
   · exact hE
   · omega
   (try dsimp only)
   omega
  have hend : n = 0 ∨ x.getD (n - 1) default ≠ 0 := .inr oM
  refine wexit ?_
  refine wsr ?_
  refine rU (h_lit (vl := []) (cs := []) uT40 ty89 rfl dC (by first | (simp [Instr.fill, Value.cells]; done) | rfl | kernel_rfl)) ?_
  rintro _ w20 ⟨b21, rfl, hs24, hb23, he22⟩
  have he22z := he22.size
  replace hx := hx.tr (Sm.ext he22)
  replace hE := Below.ext hE oM he22
  have hb23l := hb23.lt
  refine mV (v := vx) ((G11 0 rfl).trans ((hF7 0).trans (hF0 0))) (mV hs12 ?_)
  have r25 := hx.take (n) oM hv3
  refine rV (r_sh (h := (n : Int)) (kk := n) uT40 ty89 hv3 rfl oM oM) ?_
  have htl : (x.take n).length = n := by rw [List.length_take]; omega
  have ho27 := Ow.made (lo := w.heap.size) (size := 1) (n := 0) hb23 oM rfl (by simp [maxLen])
  refine rU (h_append (v1 := (.slice (some ⟨b21, 0, none⟩) (0) (0))) (v2 := (.slice A1 (n) (c2))) (n := 0) (m := (x.take (n)).length) (l := []) (news := ((x.take (n)).map (gN .u32))) uT40 ty89 rfl dC rfl rfl ho27 r25 (by intro u hu; obtain ⟨z, -, rfl⟩ := List.mem_map.1 hu; rfl) (by simp only [maxLen]; omega) oM oM) ?_
  rintro v28 w26 ⟨ho29, hg30⟩
  have hg30z := hg30.size
  replace hE := ho27.below hg30 hE oM oM
  refine aS (v := v28) rfl (RL.nil ?_)
  refine wret ?_
  refine ⟨[v28], ⟨rfl, trivial⟩, ?_⟩
  have hres := Ow.sg (g := gN .u32) (D := (fun b T => w.heap.size ≤ b ∧ T = 89)) (xs := x.take n) ho29 (by rw [List.nil_append]) oM (fun _ h => ⟨h, rfl⟩)
  rw [trim_digs lmx hn hv hend] at hres
  exact ⟨hres, hE⟩
 have hend : n = 0 ∨ x.getD (n - 1) default ≠ 0 := .inl oM
 refine RL.gno rfl rfl (bool_eq hb13) rfl dC ?_
 refine RL.gno rfl rfl (bool_eq hb13) rfl dC ?_
 refine RL.gno rfl rfl (bool_eq hb13) rfl dC ?_
 refine RL.gno rfl rfl (bool_eq hb13) rfl dC ?_
 refine RL.gno rfl rfl (bool_eq hb13) rfl dC ?_
 refine RL.gno rfl rfl (bool_eq hb13) rfl dC ?_
 refine rV (r_pick_f (v := (.bool false)) (bool_eq hb13) rfl) (RL.nil ?_)
 refine wcond_f rfl ?_
 refine wexit ?_
 refine wsr ?_
 refine rU (h_lit (vl := []) (cs := []) uT40 ty89 rfl dC (by first | (simp [Instr.fill, Value.cells]; done) | rfl | kernel_rfl)) ?_
 rintro _ w31 ⟨b32, rfl, hs35, hb34, he33⟩
 have he33z := he33.size
 replace hx := hx.tr (Sm.ext he33)
 replace hE := Below.ext hE oM he33
 have hb34l := hb34.lt
 refine mV (v := vx) ((G11 0 rfl).trans ((hF7 0).trans (hF0 0))) (mV hs12 ?_)
 have r36 := hx.take (n) oM hv3
 refine rV (r_sh (h := (n : Int)) (kk := n) uT40 ty89 hv3 rfl oM oM) ?_
 have htl : (x.take n).length = n := by rw [List.length_take]; omega
 have ho38 := Ow.made (lo := w.heap.size) (size := 1) (n := 0) hb34 oM rfl (by simp [maxLen])
 refine rU (h_append (v1 := (.slice (some ⟨b32, 0, none⟩) (0) (0))) (v2 := (.slice A1 (n) (c2))) (n := 0) (m := (x.take (n)).length) (l := []) (news := ((x.take (n)).map (gN .u32))) uT40 ty89 rfl dC rfl rfl ho38 r36 (by intro u hu; obtain ⟨z, -, rfl⟩ := List.mem_map.1 hu; rfl) (by simp only [maxLen]; omega) oM oM) ?_
 rintro v39 w37 ⟨ho40, hg41⟩
 have hg41z := hg41.size
 replace hE := ho38.below hg41 hE oM oM
 refine aS (v := v39) rfl (RL.nil ?_)
 refine wret ?_
 refine ⟨[v39], ⟨rfl, trivial⟩, ?_⟩
 have hres := Ow.sg (g := gN .u32) (D := (fun b T => w.heap.size ≤ b ∧ T = 89)) (xs := x.take n) ho40 (by rw [List.nil_append]) oM (fun _ h => ⟨h, rfl⟩)
 rw [trim_digs lmx hn hv hend] at hres
 exact ⟨hres, hE⟩
set_option maxHeartbeats 1000000 in
theorem r01_equal {w : World} {Dx Dy : Nat → TypeId → Prop} {vx vy : Value} {x y : List Nat} (hx : Sg (gN .u32) Dx w vx x) (hy : Sg (gN .u32) Dy w vy y) :
    Calls Tryz.prog 41 #[vx, vy] w fun e w' => ∃ v, e = .returned v ∧ v = .bool (decide (x = y)) ∧ Ext w w' := by
 have hE : Below w.heap.size w w := Below.refl _ _
 refine calls_of (n := 26) (rs := [.tmp 4]) func41 rfl rfl rfl bL ?_
 refine wset fun F0 hF0 => ?_
 refine wsr (aS (v := (.bool false)) rfl (RL.nil (wseq (wsr (mV (v := vx) (hF0 0) ?_)))))
 obtain ⟨A1, c2, hv3, hc4, hc5⟩ := hx.len
 refine rV (r_len uT40 hv3) (mV (v := vy) (hF0 1) ?_)
 obtain ⟨A6, c7, hv8, hc9, hc10⟩ := hy.len
 refine rV (r_len uT40 hv8) (rV (r_neq (k := .i64) (a := ((x.length : Nat) : Int)) (b := ((y.length : Nat) : Int)) rfl rfl) (RL.nil ?_))
 refine wcD (p := ((x.length : Nat) : Int) ≠ ((y.length : Nat) : Int)) rfl (fun hb11 hb11p => ?_) (fun hb11 hb11p => ?_)
 ·refine wsr ?_
  refine aS (v := (.bool false)) rfl (RL.nil ?_)
  refine wret ?_
  refine ⟨[(.bool false)], ⟨rfl, trivial⟩, ?_⟩
  exact ⟨bool_eq (decide_eq_false (fun h => by subst h; omega)).symm, hE⟩
 refine wskip ?_
 refine wseq (wsr (aS (v := (iv 0)) rfl (RL.nil ?_)))
 refine wblock ?_
 refine wset fun F12 hF13 => ?_
 refine wloop (σ := Nat) (fun (k : Nat) fl wl => Off (rg 4 2 (rg 11 15 [])) F12 fl ∧ fl 5 = (iv k) ∧ (k ≤ x.length) ∧ (∀ j, j < k → x.getD j default = y.getD j default) ∧ (Sg (gN .u32) Dx wl vx x) ∧ (Sg (gN .u32) Dy wl vy y) ∧ (Below w.heap.size w wl) ∧ (w.heap.size ≤ wl.heap.size)) (fun (k : Nat) => x.length - k) (0) ?_ ?_
 ·exact ⟨Off.refl _ _, (hF13 5).trans (rfl), Nat.zero_le _, (fun j hj => absurd hj (Nat.not_lt_zero _)), hx, hy, hE, Nat.le_refl _⟩
 clear hx hy hE
 rintro k f15 w16 ⟨G17, hs18, hk, heq, hx, hy, hE, hz14⟩
 refine wseq (wsr (mV hs18 (mV (v := vx) ((G17 0 rfl).trans ((hF13 0).trans (hF0 0))) (rV (r_len uT40 hv3) (rV (r_lss (k := .i64) (a := (k : Int)) (b := ((x.length : Nat) : Int)) rfl rfl) (RL.nil ?_))))))
 refine wcD (p := (k : Int) < ((x.length : Nat) : Int)) rfl (fun hb19 hb19p => ?_) (fun hb19 hb19p => ?_)
 ·refine wskip ?_
  refine wseq ?_
  refine wblock ?_
  refine wseq ?_
  refine wdraw mixed fun w20 he21 => ?_
  have he21z := he21.size
  replace hx := hx.tr (Sm.ext he21)
  replace hy := hy.tr (Sm.ext he21)
  replace hE := Below.ext hE oM he21
  refine aM 0 rfl (v := vx) ((G17 0 rfl).trans ((hF13 0).trans (hF0 0))) ?_
  refine aM 1 rfl (v := (iv k)) hs18 ?_
  obtain ⟨b22, o23, c24, hv25, hc26⟩ := hx.ix (i := (k : Int)) (k) oM oM
  refine ra 2 rfl (fun _ => r_indexAddr (i := (k : Int)) uT40 ty89 hv25 rfl oM oM) ?_
  refine aR 3 rfl (fun u hu => r_load (v := (.int .u32 (((x.getD (k) default : Nat) : Int)))) uT89 ag89 rfl (cell_ext hu hc26)) ?_
  refine aM 4 rfl (v := vy) ((G17 1 rfl).trans ((hF13 1).trans (hF0 1))) ?_
  refine aM 5 rfl (v := (iv k)) hs18 ?_
  obtain ⟨b27, o28, c29, hv30, hc31⟩ := hy.ix (i := (k : Int)) (k) oM oM
  refine ra 6 rfl (fun _ => r_indexAddr (i := (k : Int)) uT40 ty89 hv30 rfl oM oM) ?_
  refine aR 7 rfl (fun u hu => r_load (v := (.int .u32 (((y.getD (k) default : Nat) : Int)))) uT89 ag89 rfl (cell_ext hu hc31)) ?_
  refine ra 8 rfl (fun _ => r_neq (k := .u32) (a := ((x.getD (k) default : Nat) : Int)) (b := ((y.getD (k) default : Nat) : Int)) rfl rfl) ?_
  refine RA.done kR ?_
  refine wcD (p := ((x.getD (k) default : Nat) : Int) ≠ ((y.getD (k) default : Nat) : Int)) rfl (fun hb32 hb32p => ?_) (fun hb32 hb32p => ?_)
  ·refine wsr ?_
   refine aS (v := (.bool false)) rfl (RL.nil ?_)
   refine wret ?_
   refine ⟨[(.bool false)], ⟨rfl, trivial⟩, ?_⟩
   exact ⟨bool_eq (decide_eq_false (fun h => by subst h; omega)).symm, hE⟩
  refine wskip ?_
  refine wregion (mV hs18 (rV (r_add (k := .i64) (a := (k : Int)) (b := 1) (c := (k : Int) + 1) rfl rfl (wi64 oM)) (aS (v := (iv ((k : Int) + 1))) rfl (RL.nil ?_))))
  refine ⟨(k + 1), ⟨?_, ?_, ?_, ?_, ?_, ?_, ?_, ?_⟩, ?_⟩
  · exact (by repeat (first | exact G17 | refine Off.st ?_ dC _))
  · first | rfl | exact int_eq oM | exact bool_eq (by simp)
  · omega
  · intro j hj; rcases Nat.lt_or_eq_of_le (Nat.le_of_lt_succ hj) with h | rfl; exact heq j h; omega
  · exact hx
  · exact hy
  · exact hE
  · omega
  (try dsimp only)
  omega
 refine wexit ?_
 refine wsr (aS (v := (.bool true)) rfl (RL.nil ?_))
 refine wret ?_
 refine ⟨[(.bool true)], ⟨rfl, trivial⟩, ?_⟩
 exact ⟨bool_eq (decide_eq_true (getD_ext oM (fun j hj => heq j oM))).symm, hE⟩
set_option maxHeartbeats 1000000 in
theorem r01_from {w : World} {x : Nat} (hx : x < 18446744073709551616) :
    Calls Tryz.prog 88 #[(.int .u64 (x : Int))] w fun e w' => ∃ v, e = .returned v ∧ Sg (gN .u32) (fun b T => w.heap.size ≤ b ∧ T = 89) w' v (digs (x)) ∧ Ext w w' := by
 have hE : Below w.heap.size w w := Below.refl _ _
 refine calls_of (n := 10) (rs := [.tmp 2]) func88 rfl rfl rfl bL ?_
 refine wset fun F0 hF0 => ?_
 refine wsr (aS (v := (.slice none (0) (0))) rfl (RL.nil (wsr (mV (v := (.int .u64 (x : Int))) (hF0 0) (rV (r_conv (k := .u32) (a := (x : Int)) (c := ((x % 4294967296 : Nat) : Int)) uT73 uT89 rfl (cu32 _)) (mV (v := (.int .u64 (x : Int))) (hF0 0) (rV (r_shr (k := .u64) (a := (x : Int)) (b := 32) (c := ((x / 4294967296 : Nat) : Int)) rfl rfl dC (shr32 _)) (rV (r_conv (k := .u32) (a := ((x / 4294967296 : Nat) : Int)) (c := (((x / 4294967296) % 4294967296 : Nat) : Int)) uT73 uT89 rfl (cu32 _)) ?_))))))))
 refine rU (h_lit (vl := [(0, (.int .u32 (((x % 4294967296 : Nat) : Int)))), (1, (.int .u32 ((((x / 4294967296) % 4294967296 : Nat) : Int))))]) (cs := [(.int .u32 (((x % 4294967296 : Nat) : Int))), (.int .u32 ((((x / 4294967296) % 4294967296 : Nat) : Int)))]) uT40 ty89 rfl dC (by first | (simp [Instr.fill, Value.cells]; done) | rfl | kernel_rfl)) ?_
 rintro _ w1 ⟨b2, rfl, hs5, hb4, he3⟩
 have he3z := he3.size
 replace hE := Below.ext hE oM he3
 have hb4l := hb4.lt
 have hlm := Lm.two hx
 refine cL (vl := [(.slice (some ⟨b2, 0, none⟩) (2) (2))]) ent112 (r01_trim (hb4.sg (g := gN .u32) (D := fun _ _ => True) (xs := [x % 4294967296, (x / 4294967296) % 4294967296]) trivial rfl rfl dC) (by first | assumption | (intro z hz; simp at hz; omega)) oS) rfl ?_
 rintro vr8 w6 ⟨hr9, he7⟩
 have he7z := he7.size
 replace hE := Below.ext hE oM he7
 replace hb4 := hb4.ext he7
 have hlt10 : (digs (val ([x % 4294967296, (x / 4294967296) % 4294967296]))).length ≤ ([x % 4294967296, (x / 4294967296) % 4294967296]).length := len_le_of (by first | assumption | (intro z hz; simp at hz; omega))
 refine aS (v := vr8) rfl (RL.nil ?_)
 refine wret ?_
 refine ⟨[vr8], ⟨rfl, trivial⟩, ?_⟩
 have hres := hr9
 rw [Nat.mod_eq_of_lt (show x / 4294967296 < 4294967296 by omega), val_two] at hres
 exact ⟨hres.mono (fun b T h => by first | exact ⟨by have := h.1; omega, h.2⟩ | exact ⟨by have := h.1; omega, h.2.1⟩ | exact ⟨by have := h.1; omega, h.2, by have := h.1; omega⟩ | exact ⟨by have := h.1; omega, h.2.1, by have := h.1; omega⟩ | exact ⟨by have := h.1; omega, h.2.1, h.2.2⟩), hE⟩
set_option maxHeartbeats 1000000 in
theorem r01_uint {w : World} {Dx : Nat → TypeId → Prop} {vx : Value} {x : List Nat} (hx : Sg (gN .u32) Dx w vx x) (lmx : Lm x) (lnx : x.length ≤ 1099511627776) :
    Calls Tryz.prog 123 #[vx] w fun e w' => ∃ v, e = .returned v ∧ v = .tuple #[.int .u64 ((if val x < 18446744073709551616 then val x else 0 : Nat) : Int), .bool (decide (val x < 18446744073709551616))] ∧ Ext w w' := by
 have hE : Below w.heap.size w w := Below.refl _ _
 refine calls_of (n := 27) (rs := [.tmp 2, .tmp 3]) func123 rfl rfl rfl bL ?_
 refine wset fun F0 hF0 => ?_
 refine wsr (aS (v := (.int .u64 0)) rfl (aS (v := (.bool false)) rfl (RL.nil (wsr (mV (v := vx) (hF0 0) ?_)))))
 refine cL ent112 (r01_trim hx (by assumption) oS) rfl ?_
 rintro vr3 w1 ⟨hr4, he2⟩
 have he2z := he2.size
 replace hx := hx.tr (Sm.ext he2)
 replace hE := Below.ext hE oM he2
 have hlt5 : (digs (val x)).length ≤ x.length := len_le_of (by assumption)
 refine aS (v := vr3) rfl (RL.nil (wseq (wseq ?_)))
 have hl64 := len_u64 (n := val x)
 rw [← len_digs] at hl64
 refine wregion (mV (v := vr3) rfl ?_)
 obtain ⟨A6, c7, hv8, hc9, hc10⟩ := hr4.len
 refine rV (r_len uT40 hv8) (rV (r_gtr (k := .i64) (a := (((digs (val x)).length : Nat) : Int)) (b := 2) rfl rfl) (RL.nil ?_))
 refine wcD (p := 2 < (((digs (val x)).length : Nat) : Int)) rfl (fun hb11 hb11p => ?_) (fun hb11 hb11p => ?_)
 ·refine wsr ?_
  refine aS (v := (.int .u64 0)) rfl (aS (v := (.bool false)) rfl (RL.nil ?_))
  refine wret ?_
  refine ⟨[(.int .u64 0), (.bool false)], ⟨rfl, ⟨rfl, trivial⟩⟩, ?_⟩
  exact ⟨by rw [if_neg oM, decide_eq_false oM]; rfl, hE⟩
 refine wskip ?_
 refine wsr (aS (v := (.int .u64 0)) rfl (RL.nil (wseq (wsr (mV (v := vr3) rfl (rV (r_len uT40 hv8) (rV (r_sub (k := .i64) (a := (((digs (val x)).length : Nat) : Int)) (b := 1) (c := (((digs (val x)).length : Nat) : Int) - 1) rfl rfl (wi64 oM)) (aS (v := (iv ((((digs (val x)).length : Nat) : Int) - 1))) rfl (RL.nil ?_)))))))))
 refine wblock ?_
 refine wset fun F12 hF13 => ?_
 refine wloop (σ := Nat) (fun (n : Nat) fl wl => Off (rg 4 2 (rg 14 12 [])) F12 fl ∧ fl 5 = (iv ((n : Int) - 1)) ∧ fl 4 = (.int .u64 (((val ((digs (val x)).drop n) : Nat) : Int))) ∧ (n ≤ (digs (val x)).length) ∧ (Sg (gN .u32) (fun b T => w.heap.size ≤ b ∧ T = 89) wl vr3 (digs (val x))) ∧ (Below w.heap.size w wl) ∧ (w1.heap.size ≤ wl.heap.size)) (fun (n : Nat) => n) ((digs (val x)).length) ?_ ?_
 ·exact ⟨Off.refl _ _, (hF13 5).trans (rfl), (hF13 4).trans ((int_eq (by rw [List.drop_of_length_le (Nat.le_refl _)]; rfl))), Nat.le_refl _, hr4, hE, Nat.le_refl _⟩
 clear hx hE hr4
 rintro n f15 w16 ⟨G17, hs18, hs19, hn, hr4, hE, hz14⟩
 refine wseq (wsr (mV hs18 (rV (r_geq (k := .i64) (a := (n : Int) - 1) (b := 0) rfl rfl) (RL.nil ?_))))
 refine wcD (p := 0 ≤ ((n : Int) - 1)) rfl (fun hb20 hb20p => ?_) (fun hb20 hb20p => ?_)
 ·refine wskip ?_
  refine wseq ?_
  refine wblock ?_
  have hdl : val ((digs (val x)).drop n) < 4294967296 := by have h1 := val_lt ((digs_lm (val x)).drop n); have h2 : 4294967296 ^ ((digs (val x)).drop n).length ≤ 4294967296 ^ 1 := Nat.pow_le_pow_right dC (by rw [List.length_drop]; omega); omega
  refine wregion (mV (v := (.int .u64 (((val ((digs (val x)).drop n) : Nat) : Int)))) hs19 (rV (r_shl (k := .u64) (a := ((val ((digs (val x)).drop n) : Nat) : Int)) (b := 32) (c := ((val ((digs (val x)).drop n) * 4294967296 : Nat) : Int)) rfl rfl dC (shl32 hdl)) (mV (v := vr3) ((G17 0 rfl).trans (hF13 0)) (mV hs18 ?_))))
  obtain ⟨b21, o22, c23, hv24, hc25⟩ := hr4.ix (i := (n : Int) - 1) (n - 1) oM oM
  refine rV (r_indexAddr (i := (n : Int) - 1) uT40 ty89 hv24 rfl oM oM) (rV (r_load (v := (.int .u32 ((((digs (val x)).getD (n - 1) default : Nat) : Int)))) uT89 ag89 rfl hc25) (rV (r_conv (k := .u64) (a := (((digs (val x)).getD (n - 1) default : Nat) : Int)) (c := (((digs (val x)).getD (n - 1) default : Nat) : Int)) uT89 uT73 rfl (wu64 (by have := (digs_lm (val x)).at (show n - 1 < _ by omega); omega))) (rV (r_or (k := .u64) (a := ((val ((digs (val x)).drop n) * 4294967296 : Nat) : Int)) (b := (((digs (val x)).getD (n - 1) default : Nat) : Int)) (c := ((val ((digs (val x)).drop n) * 4294967296 + (digs (val x)).getD (n - 1) default : Nat) : Int)) rfl rfl (or32 hdl ((digs_lm (val x)).at oM))) (aS (v := (.int .u64 (((val ((digs (val x)).drop n) * 4294967296 + (digs (val x)).getD (n - 1) default : Nat) : Int)))) rfl (RL.nil (wregion (mV hs18 (rV (r_sub (k := .i64) (a := (n : Int) - 1) (b := 1) (c := ((n : Int) - 1) - 1) rfl rfl (wi64 oM)) (aS (v := (iv (((n : Int) - 1) - 1))) rfl (RL.nil ?_))))))))))
  refine ⟨(n - 1), ⟨?_, ?_, ?_, ?_, ?_, ?_, ?_⟩, ?_⟩
  · exact (by repeat (first | exact G17 | refine Off.st ?_ dC _))
  · first | rfl | exact int_eq oM | exact bool_eq (by simp)
  · exact int_eq (by rw [val_drop_cons oM hn]; omega)
  · omega
  · exact hr4
  · exact hE
  · omega
  (try dsimp only)
  omega
 refine wexit ?_
 refine wsr (mV (v := (.int .u64 (((val ((digs (val x)).drop n) : Nat) : Int)))) hs19 (aS (v := (.int .u64 (((val ((digs (val x)).drop n) : Nat) : Int)))) rfl (aS (v := (.bool true)) rfl (RL.nil ?_))))
 refine wret ?_
 refine ⟨[(.int .u64 (((val ((digs (val x)).drop n) : Nat) : Int))), (.bool true)], ⟨rfl, ⟨rfl, trivial⟩⟩, ?_⟩
 have hn0 : n = 0 := by omega
 subst hn0
 exact ⟨by rw [if_pos oM, decide_eq_true oM, List.drop_zero, val_digs]; rfl, hE⟩
set_option maxHeartbeats 1000000 in
theorem r01_compare {w : World} {Dx : Nat → TypeId → Prop} {vx : Value} {x : List Nat} (hx : Sg (gN .u32) Dx w vx x) (lmx : Lm x) (lnx : x.length ≤ 1099511627776) {Dy : Nat → TypeId → Prop} {vy : Value} {y : List Nat} (hy : Sg (gN .u32) Dy w vy y) (lmy : Lm y) (lny : y.length ≤ 1099511627776) :
    Calls Tryz.prog 131 #[vx, vy] w fun e w' => ∃ v, e = .returned v ∧ v = .int .i64 (cmpI ((val x : Nat) : Int) ((val y : Nat) : Int)) ∧ Ext w w' := by
 have hE : Below w.heap.size w w := Below.refl _ _
 refine calls_of (n := 45) (rs := [.tmp 4]) func131 rfl rfl rfl bL ?_
 refine wset fun F0 hF0 => ?_
 refine wsr (aS (v := (iv 0)) rfl (RL.nil (wsr (mV (v := vx) (hF0 0) ?_))))
 refine cL ent112 (r01_trim hx (by assumption) oS) rfl ?_
 rintro vr3 w1 ⟨hr4, he2⟩
 have he2z := he2.size
 replace hx := hx.tr (Sm.ext he2)
 replace hy := hy.tr (Sm.ext he2)
 replace hE := Below.ext hE oM he2
 have hlt5 : (digs (val x)).length ≤ x.length := len_le_of (by assumption)
 refine mV (v := vy) (hF0 1) ?_
 refine cL ent112 (r01_trim hy (by assumption) oS) rfl ?_
 rintro vr8 w6 ⟨hr9, he7⟩
 have he7z := he7.size
 replace hx := hx.tr (Sm.ext he7)
 replace hy := hy.tr (Sm.ext he7)
 replace hE := Below.ext hE oM he7
 replace hr4 := hr4.tr (Sm.ext he7)
 have hlt10 : (digs (val y)).length ≤ y.length := len_le_of (by assumption)
 refine aS (v := vr3) rfl (aS (v := vr8) rfl (RL.nil (wseq (wsr (mV (v := vr3) rfl ?_)))))
 obtain ⟨A11, c12, hv13, hc14, hc15⟩ := hr4.len
 refine rV (r_len uT40 hv13) (mV (v := vr8) rfl ?_)
 obtain ⟨A16, c17, hv18, hc19, hc20⟩ := hr9.len
 refine rV (r_len uT40 hv18) (rV (r_neq (k := .i64) (a := (((digs (val x)).length : Nat) : Int)) (b := (((digs (val y)).length : Nat) : Int)) rfl rfl) (RL.nil ?_))
 refine wcD (p := (((digs (val x)).length : Nat) : Int) ≠ (((digs (val y)).length : Nat) : Int)) rfl (fun hb21 hb21p => ?_) (fun hb21 hb21p => ?_)
 ·refine wseq ?_
  refine wsr (mV (v := vr3) rfl (rV (r_len uT40 hv13) (mV (v := vr8) rfl (rV (r_len uT40 hv18) (rV (r_lss (k := .i64) (a := (((digs (val x)).length : Nat) : Int)) (b := (((digs (val y)).length : Nat) : Int)) rfl rfl) (RL.nil ?_))))))
  refine wcD (p := (((digs (val x)).length : Nat) : Int) < (((digs (val y)).length : Nat) : Int)) rfl (fun hb22 hb22p => ?_) (fun hb22 hb22p => ?_)
  ·refine wsr ?_
   refine aS (v := (iv (-1))) rfl (RL.nil ?_)
   refine wret ?_
   refine ⟨[(iv (-1))], ⟨rfl, trivial⟩, ?_⟩
   have hlt : val x < val y := by first | exact len_lt_of (by rw [← len_digs, ← len_digs]; omega) | (have h := cmp_at (a := digs (val x)) (b := digs (val y)) (m := n - 1) (digs_lm (val x)) oM oM (by rw [show n - 1 + 1 = n by omega]; exact hd) oM; rw [val_digs, val_digs] at h; exact h)
   exact ⟨int_eq (by unfold cmpI; rw [if_pos oM]), hE⟩
  refine wskip ?_
  refine wsr (aS (v := (iv 1)) rfl (RL.nil ?_))
  refine wret ?_
  refine ⟨[(iv 1)], ⟨rfl, trivial⟩, ?_⟩
  have hlt : val y < val x := by first | exact len_lt_of (by rw [← len_digs, ← len_digs]; omega) | (have h := cmp_at (a := digs (val y)) (b := digs (val x)) (m := n - 1) (digs_lm (val y)) oM oM (by rw [show n - 1 + 1 = n by omega]; exact hd.symm) oM; rw [val_digs, val_digs] at h; exact h)
  exact ⟨int_eq (by unfold cmpI; rw [if_neg oM, if_pos oM]), hE⟩
 refine wskip ?_
 refine wseq (wsr (mV (v := vr3) rfl (rV (r_len uT40 hv13) (rV (r_sub (k := .i64) (a := (((digs (val x)).length : Nat) : Int)) (b := 1) (c := (((digs (val x)).length : Nat) : Int) - 1) rfl rfl (wi64 oM)) (aS (v := (iv ((((digs (val x)).length : Nat) : Int) - 1))) rfl (RL.nil ?_))))))
 refine wblock ?_
 refine wset fun F23 hF24 => ?_
 refine wloop (σ := Nat) (fun (n : Nat) fl wl => Off (rg 4 2 (rg 23 22 [])) F23 fl ∧ fl 5 = (iv ((n : Int) - 1)) ∧ (n ≤ (digs (val x)).length) ∧ ((digs (val x)).drop n = (digs (val y)).drop n) ∧ (Sg (gN .u32) (fun b T => w.heap.size ≤ b ∧ T = 89) wl vr3 (digs (val x))) ∧ (Sg (gN .u32) (fun b T => w1.heap.size ≤ b ∧ T = 89) wl vr8 (digs (val y))) ∧ (Below w.heap.size w wl) ∧ (w6.heap.size ≤ wl.heap.size)) (fun (n : Nat) => n) ((digs (val x)).length) ?_ ?_
 ·exact ⟨Off.refl _ _, (hF24 5).trans (rfl), Nat.le_refl _, (by rw [List.drop_of_length_le (Nat.le_refl _), List.drop_of_length_le oM]), hr4, hr9, hE, Nat.le_refl _⟩
 clear hx hy hE hr4 hr9
 rintro n f26 w27 ⟨G28, hs29, hn, hd, hr4, hr9, hE, hz25⟩
 refine wseq (wsr (mV hs29 (rV (r_geq (k := .i64) (a := (n : Int) - 1) (b := 0) rfl rfl) (RL.nil ?_))))
 refine wcD (p := 0 ≤ ((n : Int) - 1)) rfl (fun hb30 hb30p => ?_) (fun hb30 hb30p => ?_)
 ·refine wskip ?_
  refine wseq ?_
  refine wblock ?_
  refine wseq (wseq ?_)
  refine wdraw mixed fun w31 he32 => ?_
  have he32z := he32.size
  replace hE := Below.ext hE oM he32
  replace hr4 := hr4.tr (Sm.ext he32)
  replace hr9 := hr9.tr (Sm.ext he32)
  refine aM 0 rfl (v := vr3) ((G28 0 rfl).trans (hF24 0)) ?_
  refine aM 1 rfl (v := (iv ((n : Int) - 1))) hs29 ?_
  obtain ⟨b33, o34, c35, hv36, hc37⟩ := hr4.ix (i := (n : Int) - 1) (n - 1) oM oM
  refine ra 2 rfl (fun _ => r_indexAddr (i := (n : Int) - 1) uT40 ty89 hv36 rfl oM oM) ?_
  refine aR 3 rfl (fun u hu => r_load (v := (.int .u32 ((((digs (val x)).getD (n - 1) default : Nat) : Int)))) uT89 ag89 rfl (cell_ext hu hc37)) ?_
  refine aM 4 rfl (v := vr8) ((G28 1 rfl).trans (hF24 1)) ?_
  refine aM 5 rfl (v := (iv ((n : Int) - 1))) hs29 ?_
  obtain ⟨b38, o39, c40, hv41, hc42⟩ := hr9.ix (i := (n : Int) - 1) (n - 1) oM oM
  refine ra 6 rfl (fun _ => r_indexAddr (i := (n : Int) - 1) uT40 ty89 hv41 rfl oM oM) ?_
  refine aR 7 rfl (fun u hu => r_load (v := (.int .u32 ((((digs (val y)).getD (n - 1) default : Nat) : Int)))) uT89 ag89 rfl (cell_ext hu hc42)) ?_
  refine ra 8 rfl (fun _ => r_lss (k := .u32) (a := (((digs (val x)).getD (n - 1) default : Nat) : Int)) (b := (((digs (val y)).getD (n - 1) default : Nat) : Int)) rfl rfl) ?_
  refine RA.done kR ?_
  refine wcD (p := (((digs (val x)).getD (n - 1) default : Nat) : Int) < (((digs (val y)).getD (n - 1) default : Nat) : Int)) rfl (fun hb43 hb43p => ?_) (fun hb43 hb43p => ?_)
  ·refine wsr ?_
   refine aS (v := (iv (-1))) rfl (RL.nil ?_)
   refine wret ?_
   refine ⟨[(iv (-1))], ⟨rfl, trivial⟩, ?_⟩
   have hlt : val x < val y := by first | exact len_lt_of (by rw [← len_digs, ← len_digs]; omega) | (have h := cmp_at (a := digs (val x)) (b := digs (val y)) (m := n - 1) (digs_lm (val x)) oM oM (by rw [show n - 1 + 1 = n by omega]; exact hd) oM; rw [val_digs, val_digs] at h; exact h)
   exact ⟨int_eq (by unfold cmpI; rw [if_pos oM]), hE⟩
  refine wskip ?_
  refine wseq ?_
  refine wdraw mixed fun w44 he45 => ?_
  have he45z := he45.size
  replace hE := Below.ext hE oM he45
  replace hr4 := hr4.tr (Sm.ext he45)
  replace hr9 := hr9.tr (Sm.ext he45)
  refine aM 0 rfl (v := vr3) ((G28 0 rfl).trans (hF24 0)) ?_
  refine aM 1 rfl (v := (iv ((n : Int) - 1))) hs29 ?_
  obtain ⟨b46, o47, c48, hv49, hc50⟩ := hr4.ix (i := (n : Int) - 1) (n - 1) oM oM
  refine ra 2 rfl (fun _ => r_indexAddr (i := (n : Int) - 1) uT40 ty89 hv49 rfl oM oM) ?_
  refine aR 3 rfl (fun u hu => r_load (v := (.int .u32 ((((digs (val x)).getD (n - 1) default : Nat) : Int)))) uT89 ag89 rfl (cell_ext hu hc50)) ?_
  refine aM 4 rfl (v := vr8) ((G28 1 rfl).trans (hF24 1)) ?_
  refine aM 5 rfl (v := (iv ((n : Int) - 1))) hs29 ?_
  obtain ⟨b51, o52, c53, hv54, hc55⟩ := hr9.ix (i := (n : Int) - 1) (n - 1) oM oM
  refine ra 6 rfl (fun _ => r_indexAddr (i := (n : Int) - 1) uT40 ty89 hv54 rfl oM oM) ?_
  refine aR 7 rfl (fun u hu => r_load (v := (.int .u32 ((((digs (val y)).getD (n - 1) default : Nat) : Int)))) uT89 ag89 rfl (cell_ext hu hc55)) ?_
  refine ra 8 rfl (fun _ => r_gtr (k := .u32) (a := (((digs (val x)).getD (n - 1) default : Nat) : Int)) (b := (((digs (val y)).getD (n - 1) default : Nat) : Int)) rfl rfl) ?_
  refine RA.done kR ?_
  refine wcD (p := (((digs (val y)).getD (n - 1) default : Nat) : Int) < (((digs (val x)).getD (n - 1) default : Nat) : Int)) rfl (fun hb56 hb56p => ?_) (fun hb56 hb56p => ?_)
  ·refine wsr ?_
   refine aS (v := (iv 1)) rfl (RL.nil ?_)
   refine wret ?_
   refine ⟨[(iv 1)], ⟨rfl, trivial⟩, ?_⟩
   have hlt : val y < val x := by first | exact len_lt_of (by rw [← len_digs, ← len_digs]; omega) | (have h := cmp_at (a := digs (val y)) (b := digs (val x)) (m := n - 1) (digs_lm (val y)) oM oM (by rw [show n - 1 + 1 = n by omega]; exact hd.symm) oM; rw [val_digs, val_digs] at h; exact h)
   exact ⟨int_eq (by unfold cmpI; rw [if_neg oM, if_pos oM]), hE⟩
  refine wskip ?_
  refine wregion (mV hs29 (rV (r_sub (k := .i64) (a := (n : Int) - 1) (b := 1) (c := ((n : Int) - 1) - 1) rfl rfl (wi64 oM)) (aS (v := (iv (((n : Int) - 1) - 1))) rfl (RL.nil ?_))))
  refine ⟨(n - 1), ⟨?_, ?_, ?_, ?_, ?_, ?_, ?_, ?_⟩, ?_⟩
  · exact (by repeat (first | exact G28 | refine Off.st ?_ dC _))
  · first | rfl | exact int_eq oM | exact bool_eq (by simp)
  · omega
  · exact drop_step oM hn oM hd oM
  · exact hr4
  · exact hr9
  · exact hE
  · omega
  (try dsimp only)
  omega
 refine wexit ?_
 refine wsr (aS (v := (iv 0)) rfl (RL.nil ?_))
 refine wret ?_
 refine ⟨[(iv 0)], ⟨rfl, trivial⟩, ?_⟩
 have hn0 : n = 0 := by omega
 subst hn0
 rw [List.drop_zero, List.drop_zero] at hd
 have h := congrArg val hd
 rw [val_digs, val_digs] at h
 exact ⟨int_eq (by unfold cmpI; rw [if_neg oM, if_neg oM]), hE⟩
end Go.Proofs.YtelbjmhhbeijkaaGreat
