/-
  REGIONS: in the order of the text (RL), and in whatever order (RA): there what reads is taken first, what calls comes in its own order, and a store that waits for all before it is no burden to what was taken.
-/
import Derived.Test.YtppgppnkhpjlpaaVga
namespace Go.Vg
open Go.RowKit

section lists
variable {P : Program} {n : Nat} {Q : Po} {f : Nat → Value} {w w' : World} {ops : Array Oper} {o : Oper} {rest : List Oper} {d : Nat} {v : Value}

def RL (P : Program) (n : Nat) (ops : Array Oper) (l : List Oper) (Q : Po) (f : Nat → Value) (w : World) : Prop := ∀ a, Fm n f a → wpList P ops (up n Q) l a w

theorem wregion {id : Nat} {l : List Oper} (h : RL P n l.toArray l Q f w) : WP P n (.region id l.toArray false) Q f w := fun a ha => wp_region_lit (h a ha)
theorem RL.nil (h : Q.nrm f w) : RL P n ops [] Q f w := fun _ ha => wpList_nil ⟨f, ha, h⟩

theorem RL.val (hg : o.guard = none) (hd : o.dst = some d) (hn : d < n) (hr : (execOp (ev f) o).run P w = .ok (.value v) w') (h : RL P n ops rest Q (st f d v) w') : RL P n ops (o :: rest) Q f w := fun a ha =>
  wpList_plain hg fun K hK => by
    unfold Oper.wp
    rw [ha.eval, hr]
    exact hK _ _ (h _ (by rw [hd]; exact ha.put hn v))
/-- an operation that leaves no value anybody names -/
theorem RL.val0 (hg : o.guard = none) (hd : o.dst = none) (hr : (execOp (ev f) o).run P w = .ok (.value v) w') (h : RL P n ops rest Q f w') : RL P n ops (o :: rest) Q f w := fun a ha =>
  wpList_plain hg fun K hK => by
    unfold Oper.wp
    rw [ha.eval, hr]
    exact hK _ _ (h _ (by rw [hd]; exact ha))
theorem RL.skip (hg : o.guard = none) (hd : o.dst = none) (hr : (execOp (ev f) o).run P w = .ok .skip w') (h : RL P n ops rest Q f w') : RL P n ops (o :: rest) Q f w := fun a ha =>
  wpList_plain hg fun K hK => by
    unfold Oper.wp
    rw [ha.eval, hr]
    exact hK _ _ (h _ (by rw [hd]; exact ha))
theorem RL.call {k : FuncId} {args : Array Value} {Post : Value → World → Prop} (hg : o.guard = none) (hd : o.dst = some d) (hn : d < n) (hr : (execOp (ev f) o).run P w = .ok (.enter k args) w)
    (hc : Calls P k args w fun e w' => ∃ v, e = .returned v ∧ Post v w') (h : ∀ v w', Post v w' → RL P n ops rest Q (st f d v) w') : RL P n ops (o :: rest) Q f w := fun a ha =>
  wpList_plain hg fun K hK => by
    unfold Oper.wp
    rw [ha.eval, hr]
    refine hc.mono fun e w1 ⟨u, he, hp⟩ => ?_
    subst he
    exact hK _ _ (h u w1 hp _ (by rw [hd]; exact ha.put hn u))

theorem yielded_of {a : Act} (ha : Fm n f a) {j t : Nat} {b : Bool} (hj : (ops[j]?).bind (·.dst) = some t) (hf : f t = .bool b) : yielded ops a.tmps j = some b := by
  have h := ha.2.2 t
  rw [hf] at h
  unfold yielded
  rw [hj]
  rcases Nat.lt_or_ge t a.tmps.size with hl | hl
  · simp only [Option.bind_some]
    simp [Array.getD, hl] at h
    simp [hl, h]
  · simp [Array.getD, Nat.not_lt.2 hl, undef] at h

theorem wanted_of {a : Act} (ha : Fm n f a) {j t : Nat} {b want : Bool} (hg : o.guard = some (j, want)) (hj : (ops[j]?).bind (·.dst) = some t) (hf : f t = .bool b) :
    Region.wanted o (yielded ops a.tmps) = (b == want) := by
  unfold Region.wanted
  simp only [hg, yielded_of ha hj hf]
  cases b <;> cases want <;> rfl

/-- the guard says yes -/
theorem RL.gval {j t : Nat} {want : Bool} (hg : o.guard = some (j, want)) (hj : (ops[j]?).bind (·.dst) = some t) (hf : f t = .bool want) (hd : o.dst = some d) (hn : d < n)
    (hr : (execOp (ev f) o).run P w = .ok (.value v) w') (h : RL P n ops rest Q (st f d v) w') : RL P n ops (o :: rest) Q f w := fun a ha =>
  wpList_step fun K hK => by
    have hw := wanted_of ha hg hj hf
    rw [hw]
    simp only [BEq.rfl, if_true]
    unfold Oper.wp
    rw [ha.eval, hr]
    exact hK _ _ (h _ (by rw [hd]; exact ha.put hn v))
theorem RL.gcall {j t : Nat} {want : Bool} {k : FuncId} {args : Array Value} {Post : Value → World → Prop} (hg : o.guard = some (j, want)) (hj : (ops[j]?).bind (·.dst) = some t) (hf : f t = .bool want) (hd : o.dst = some d) (hn : d < n)
    (hr : (execOp (ev f) o).run P w = .ok (.enter k args) w) (hc : Calls P k args w fun e w' => ∃ v, e = .returned v ∧ Post v w') (h : ∀ v w', Post v w' → RL P n ops rest Q (st f d v) w') : RL P n ops (o :: rest) Q f w := fun a ha =>
  wpList_step fun K hK => by
    have hw := wanted_of ha hg hj hf
    rw [hw]
    simp only [BEq.rfl, if_true]
    unfold Oper.wp
    rw [ha.eval, hr]
    refine hc.mono fun e w1 ⟨u, he, hp⟩ => ?_
    subst he
    exact hK _ _ (h u w1 hp _ (by rw [hd]; exact ha.put hn u))
/-- the guard says no -/
theorem RL.gno {j t : Nat} {want : Bool} (hg : o.guard = some (j, want)) (hj : (ops[j]?).bind (·.dst) = some t) (hf : f t = .bool (!want)) (hd : o.dst = some d) (hn : d < n)
    (h : RL P n ops rest Q (st f d undef) w) : RL P n ops (o :: rest) Q f w := fun a ha =>
  wpList_step fun K hK => by
    have hw := wanted_of ha hg hj hf
    rw [hw]
    have : ((!want) == want) = false := by cases want <;> rfl
    rw [this]
    simp only [Bool.false_eq_true, if_false]
    exact hK _ _ (h _ (by rw [hd]; exact ha.put hn undef))
/-- the guard is itself behind a guard that said no -/
theorem RL.gun {j t : Nat} {want : Bool} (hg : o.guard = some (j, want)) (hj : (ops[j]?).bind (·.dst) = some t) (hf : f t = undef) (hd : o.dst = some d) (hn : d < n)
    (h : RL P n ops rest Q (st f d undef) w) : RL P n ops (o :: rest) Q f w := fun a ha =>
  wpList_step fun K hK => by
    have hy : yielded ops a.tmps j = none := by
      have h := ha.2.2 t
      rw [hf] at h
      unfold yielded
      rw [hj]
      simp only [Option.bind_some]
      rcases Nat.lt_or_ge t a.tmps.size with hl | hl
      · simp [Array.getD, hl] at h
        simp [hl, h, undef]
      · simp [Array.getElem?_eq_none hl]
    have hw : Region.wanted o (yielded ops a.tmps) = false := by
      unfold Region.wanted
      simp only [hg, hy]
      rfl
    rw [hw]
    simp only [Bool.false_eq_true, if_false]
    exact hK _ _ (h _ (by rw [hd]; exact ha.put hn undef))
end lists

/-! ### whatever order -/
/-- Does it read memory and nothing else? -/
def isRd (o : Oper) : Bool := match o.op with
  | .load .. => true
  | _ => false
/-- Does it leave the world as it is? -/
def calm (o : Oper) : Bool := match o.op with
  | .move _ | .assign _ | .pick .. | .load .. | .binOp .. | .unOp .. | .convert .. | .field .. | .fieldAddr .. | .indexAddr .. | .index .. | .slice .. | .extract .. | .build .. | .makeFunc .. | .nilCheck _ => true
  | .call { callee := .builtin .len, .. } | .call { callee := .builtin .cap, .. } | .call { callee := .builtin .min, .. } | .call { callee := .builtin .max, .. } => true
  | _ => false
def calmAt (ops : Array Oper) (j : Nat) : Bool := match ops[j]? with
  | some o => calm o
  | none => false
def rdAt (ops : Array Oper) (j : Nat) : Bool := match ops[j]? with
  | some o => isRd o
  | none => false
/-- Which operations wait for operation i, at once or by way of others? -/
def depArr (ops : Array Oper) (i : Nat) : Array Bool := ops.foldl (fun acc o => acc.push (o.after.any fun e => Region.binds .any e && (e.on == i || acc.getD e.on false))) #[]
def depAt (ops : Array Oper) (i j : Nat) : Bool := (depArr ops i).getD j false
/-- Is that so, and is none of them listed yet? -/
def depOk (ops : Array Oper) (listed : Array Bool) (i : Nat) : Bool :=
  let d := depArr ops i
  (List.range d.size).all fun k => !(d.getD k false) || (!(listed.getD k true) && match ops[k]? with
    | some o => o.after.any fun e => Region.binds .any e && (e.on == i || d.getD e.on false)
    | none => false)
/-- Operation j waits for all that read. -/
def lastOp (ops : Array Oper) (j : Nat) : Bool :=
  (List.range ops.size).all fun i => i == j || !rdAt ops i || depAt ops i j

def Oks (ops : Array Oper) (S : World → Prop) (j : Nat) (w w' : World) : Prop := (calmAt ops j = true ∧ w' = w) ∨ lastOp ops j = true ∨ S w'

def wpAnyF (P : Program) (ops : Array Oper) (Q : Exit → Act → World → Prop) (S : World → Prop) : Nat → Array Bool → Act → World → Prop
  | 0, listed, a, w => Region.ready .any ops listed = [] ∧ Q .normal a w
  | fuel + 1, listed, a, w =>
    (Region.ready .any ops listed = [] → Q .normal a w) ∧
    ∀ i ∈ Region.ready .any ops listed, wpOp P ops Q i (fun a' w' => Oks ops S i w w' ∧ wpAnyF P ops Q S fuel (listed.setIfInBounds i true) a' w') a w

section any
variable {P : Program} {ops : Array Oper} {Q : Exit → Act → World → Prop} {S : World → Prop}

theorem wpAny_of_F : ∀ (fuel : Nat) (listed : Array Bool) (a : Act) (w : World), wpAnyF P ops Q S fuel listed a w → wpAny P .any ops Q fuel listed a w
  | 0, _, _, _, h => h
  | fuel + 1, _, _, _, h => ⟨h.1, fun i hi => wpOp_mono (fun a' w' h' => wpAny_of_F fuel _ a' w' h'.2) (h.2 i hi)⟩

/-- S may be asked to say more from here on. -/
theorem wpAnyF_more {S' : World → Prop} (hS : ∀ w, S' w → S w) : ∀ (fuel : Nat) (listed : Array Bool) (a : Act) (w : World), wpAnyF P ops Q S' fuel listed a w → wpAnyF P ops Q S fuel listed a w
  | 0, _, _, _, h => h
  | fuel + 1, _, _, _, h => ⟨h.1, fun i hi => wpOp_mono (fun a' w' h' => ⟨h'.1.imp id (Or.imp id (hS w')), wpAnyF_more hS fuel _ a' w' h'.2⟩) (h.2 i hi)⟩

theorem lastOp_waits {i j : Nat} (hl : lastOp ops j = true) (hij : i ≠ j) (hi : i < ops.size) (hr : rdAt ops i = true) : depAt ops i j = true := by
  unfold lastOp at hl
  simp only [List.all_eq_true, List.mem_range] at hl
  have h := hl i hi
  simpa only [hr, Bool.not_true, Bool.or_false, Bool.or_eq_true, beq_iff_eq, hij, false_or] using h
theorem depOk_spec {i k : Nat} {listed : Array Bool} (h : depOk ops listed i = true) (hk : depAt ops i k = true) :
    listed.getD k true = false ∧ ∃ o, ops[k]? = some o ∧ ∃ e ∈ o.after, Region.binds .any e = true ∧ (e.on = i ∨ depAt ops i e.on = true) := by
  unfold depOk at h
  simp only [List.all_eq_true, List.mem_range] at h
  have hlt : k < (depArr ops i).size := by
    unfold depAt at hk
    rcases Nat.lt_or_ge k (depArr ops i).size with h' | h'
    · exact h'
    · simp [Array.getD, Nat.not_lt.2 h'] at hk
  have h1 := h k hlt
  unfold depAt at hk
  rw [hk] at h1
  simp only [Bool.not_true, Bool.false_or, Bool.and_eq_true, Bool.not_eq_true'] at h1
  refine ⟨h1.1, ?_⟩
  have h2 := h1.2
  split at h2
  · next o ho =>
    obtain ⟨e, he, hb⟩ := Array.any_eq_true'.1 h2
    simp only [Bool.and_eq_true, Bool.or_eq_true, beq_iff_eq] at hb
    exact ⟨o, ho, e, he, hb.1, hb.2⟩
  · cases h2

/-- What leaves the world alone may be taken first; what reads leans on S, which holds till then. -/
theorem wpAnyF_first {i : Nat} {oi : Oper} {v : Value} {S0 : World → Prop} (hi : ops[i]? = some oi) (hc : calm oi = true) (hS0 : (∀ w, S0 w) ∨ (isRd oi = true ∧ ∀ w, S w → S0 w))
    (hcl : isRd oi = true → ∀ k, depAt ops i k = true → ∃ o, ops[k]? = some o ∧ ∃ e ∈ o.after, Region.binds .any e = true ∧ (e.on = i ∨ depAt ops i e.on = true))
    (hsel : ∀ (j : Nat) (o : Oper) cs b, ops[j]? = some o → o.op ≠ .select cs b) (hQ : ∀ c a w, Q (.panic c) (a.put oi.dst v) w → Q (.panic c) a w) :
    ∀ (fuel : Nat) (listed : Array Bool) (a : Act) (w : World),
      (∀ j oj, ops[j]? = some oj → j ≠ i → listed.getD j true = false → (∀ e ∈ oj.after, Region.binds .any e = true → e.on ≠ i) → oi.apart ops oj = true) →
      (isRd oi = true → ∀ k, depAt ops i k = true → listed.getD k true = false) →
      i ∈ Region.ready .any ops listed → YieldsIf P ops S0 oi v a → S0 w →
      wpAnyF P ops Q S fuel (listed.setIfInBounds i true) (a.put oi.dst v) w → wpAnyF P ops Q S (fuel + 1) listed a w := by
  have hci : calmAt ops i = true := by unfold calmAt; rw [hi]; exact hc
  intro fuel
  induction fuel with
  | zero =>
    intro listed a w _ _ hr hy hS H
    refine ⟨fun h => (by rw [h] at hr; cases hr), fun j hj => ?_⟩
    by_cases hji : j = i
    · subst hji; exact hy.wpOp hi hS ⟨.inl ⟨hci, rfl⟩, H⟩
    · have := ready_mono hj hji
      rw [H.1] at this
      cases this
  | succ fuel ih =>
    intro listed a w hfree hun hr hy hS H
    refine ⟨fun h => (by rw [h] at hr; cases hr), fun j hj => ?_⟩
    by_cases hji : j = i
    · subst hji; exact hy.wpOp hi hS ⟨.inl ⟨hci, rfl⟩, H⟩
    · have h1 := H.2 j (ready_mono hj hji)
      obtain ⟨hjun, oj, hoj, hall⟩ := mem_ready.1 hj
      have hnot : ∀ e ∈ oj.after, Region.binds .any e = true → e.on ≠ i := fun e he hb heq => by
        have h1 := hall e he hb
        have h0 := (mem_ready.1 hr).1
        rw [heq] at h1
        rcases Nat.lt_or_ge i listed.size with h' | h'
        · simp [h'] at h0 h1; rw [h0] at h1; cases h1
        · simp [Array.getElem?_eq_none h'] at h1
      have hjd : isRd oi = true → depAt ops i j = false := fun hrd => by
        rcases Bool.eq_false_or_eq_true (depAt ops i j) with hd | hd
        · obtain ⟨o, ho, e, he, hb, hcase⟩ := hcl hrd j hd
          rw [hoj] at ho
          injection ho with ho
          subst ho
          rcases hcase with hc | hc
          · exact absurd hc (hnot e he hb)
          · have h1 := hall e he hb
            have h0 := hun hrd e.on hc
            rcases Nat.lt_or_ge e.on listed.size with h' | h'
            · simp [h'] at h0 h1; rw [h0] at h1; cases h1
            · simp [Array.getElem?_eq_none h'] at h1
        · exact hd
      have hun' : isRd oi = true → ∀ k, depAt ops i k = true → (listed.setIfInBounds j true).getD k true = false := fun hrd k hk => by
        have hjk : j ≠ k := fun h => by subst h; rw [hjd hrd] at hk; cases hk
        rw [getD_set_ne true hjk]
        exact hun hrd k hk
      have h2 := wpOp_putIf hoj (hfree j oj hoj hji hjun hnot) (fun cs b => hsel i oi cs b hi) (fun cs b => hsel j oj cs b hoj) hQ hy h1
      have hfree' : ∀ k ok, ops[k]? = some ok → k ≠ i → (listed.setIfInBounds j true).getD k true = false →
          (∀ e ∈ ok.after, Region.binds .any e = true → e.on ≠ i) → oi.apart ops ok = true := fun k ok hk hki hun hno => by
        refine hfree k ok hk hki ?_ hno
        by_cases hjk : j = k
        · subst hjk; exact hjun
        · rw [getD_set_ne true hjk] at hun; exact hun
      refine wpOp_mono (fun a' w' h3 => ?_) h2
      have hS' : S0 w' := by
        rcases hS0 with hS0 | ⟨hrd, hS0⟩
        · exact hS0 w'
        · rcases h3.2.1 with ⟨_, he⟩ | hl | hs
          · rw [he]; exact hS
          · have hlt : i < ops.size := (Array.getElem?_eq_some_iff.1 hi).1
            have hd := lastOp_waits hl (Ne.symm hji) hlt (by unfold rdAt; rw [hi]; exact hrd)
            rw [hjd hrd] at hd
            cases hd
          · exact hS0 w' hs
      refine ⟨h3.2.1, ih (listed.setIfInBounds j true) a' w' hfree' hun' (ready_mono hr (Ne.symm hji)) h3.1 hS' ?_⟩
      rw [Array.setIfInBounds_comm _ _ hji]
      exact h3.2.2
end any

/-- May operation i be taken first? -/
def takeOk (ops : Array Oper) (listed : Array Bool) (i : Nat) : Bool :=
  Region.noSelect ops && Region.free .any ops listed i && (Region.ready .any ops listed).contains i && calmAt ops i && (!rdAt ops i || depOk ops listed i)

/-- The region from here on, in whatever order; what is taken first leans on S. -/
def RA (P : Program) (n : Nat) (ops : Array Oper) (Q : Po) (S : World → Prop) (fuel : Nat) (listed : Array Bool) (f : Nat → Value) (w : World) : Prop :=
  ∀ a, Fm n f a → wpAnyF P ops (up n Q) S fuel listed a w

section ra
variable {P : Program} {n : Nat} {Q : Po} {f : Nat → Value} {w w' : World} {ops : Array Oper} {o : Oper} {S : World → Prop} {fuel : Nat} {listed : Array Bool} {d : Nat} {v : Value}

theorem wdrawS {id : Nat} (S : World → Prop) (hm : P.follows .mixedOrders = true) (h : RA P n ops Q S ops.size (Array.replicate ops.size false) f w.drew) : WP P n (.region id ops true) Q f w := fun a ha =>
  wp_region_any hm (wpAny_of_F _ _ _ _ (h a ha))
theorem wdraw {id : Nat} (hm : P.follows .mixedOrders = true) (h : ∀ w1, Below w.heap.size w w1 → RA P n ops Q (fun u => Below w1.heap.size w1 u) ops.size (Array.replicate ops.size false) f w1) : WP P n (.region id ops true) Q f w :=
  wdrawS _ hm (h w.drew (Below.drew (Below.refl _ _)))

theorem RA.more {S' : World → Prop} (hS : ∀ w, S' w → S w) (h : RA P n ops Q S' fuel listed f w) : RA P n ops Q S fuel listed f w := fun a ha => wpAnyF_more hS _ _ _ _ (h a ha)

/-- what every take leans on -/
theorem RA.take0 {S0 : World → Prop} (i : Nat) (hi : ops[i]? = some o) (hok : takeOk ops listed i = true) (hS0 : (∀ w, S0 w) ∨ (isRd o = true ∧ ∀ w, S w → S0 w)) (hS : S0 w) (hd : o.dst = some d) (hn : d < n)
    (hy : ∀ a, Fm n f a → YieldsIf P ops S0 o v a) (h : RA P n ops Q S fuel (listed.setIfInBounds i true) (st f d v) w) : RA P n ops Q S (fuel + 1) listed f w := fun a ha => by
  unfold takeOk at hok
  simp only [Bool.and_eq_true] at hok
  obtain ⟨⟨⟨⟨h1, h2⟩, h3⟩, h4⟩, h5⟩ := hok
  have h6 : isRd o = true → depOk ops listed i = true := fun hrd => by
    have : rdAt ops i = true := by unfold rdAt; rw [hi]; exact hrd
    rw [this] at h5
    simpa using h5
  refine wpAnyF_first (i := i) (v := v) (S0 := S0) hi (by unfold calmAt at h4; rw [hi] at h4; exact h4) hS0 (fun hrd k hk => (depOk_spec (h6 hrd) hk).2) (Region.noSelect_spec h1) (fun _ _ _ h => h) fuel listed a w (Region.free_spec hi h2) (fun hrd k hk => (depOk_spec (h6 hrd) hk).1) (by simpa using h3) (hy a ha) hS ?_
  exact h _ (by rw [hd]; exact ha.put hn v)
/-- one that computes -/
theorem RA.take (i : Nat) (hi : ops[i]? = some o) (hok : takeOk ops listed i = true) (hg : o.guard = none) (hd : o.dst = some d) (hn : d < n)
    (hr : ∀ w, (execOp (ev f) o).run P w = .ok (.value v) w) (h : RA P n ops Q S fuel (listed.setIfInBounds i true) (st f d v) w) : RA P n ops Q S (fuel + 1) listed f w :=
  RA.take0 (S0 := fun _ => True) i hi hok (.inl fun _ => trivial) trivial hd hn (fun a ha => .inl ⟨by simp [Region.wanted, hg], fun w _ => by rw [ha.eval]; exact hr w⟩) h
/-- one that reads -/
theorem RA.rd (i : Nat) (hi : ops[i]? = some o) (hok : takeOk ops listed i = true) (hrd : isRd o = true) (hg : o.guard = none) (hd : o.dst = some d) (hn : d < n) (hS : S w)
    (hr : ∀ w, S w → (execOp (ev f) o).run P w = .ok (.value v) w) (h : RA P n ops Q S fuel (listed.setIfInBounds i true) (st f d v) w) : RA P n ops Q S (fuel + 1) listed f w :=
  RA.take0 (S0 := S) i hi hok (.inr ⟨hrd, fun _ h => h⟩) hS hd hn (fun a ha => .inl ⟨by simp [Region.wanted, hg], fun w hw => by rw [ha.eval]; exact hr w hw⟩) h
/-- behind a guard that says yes -/
theorem RA.gtake (i : Nat) {j t : Nat} {want : Bool} (hi : ops[i]? = some o) (hok : takeOk ops listed i = true) (hg : o.guard = some (j, want)) (hj : (ops[j]?).bind (·.dst) = some t) (hf : f t = .bool want) (hd : o.dst = some d) (hn : d < n)
    (hr : ∀ w, (execOp (ev f) o).run P w = .ok (.value v) w) (h : RA P n ops Q S fuel (listed.setIfInBounds i true) (st f d v) w) : RA P n ops Q S (fuel + 1) listed f w :=
  RA.take0 (S0 := fun _ => True) i hi hok (.inl fun _ => trivial) trivial hd hn (fun a ha => .inl ⟨by rw [wanted_of ha hg hj hf]; simp, fun w _ => by rw [ha.eval]; exact hr w⟩) h
theorem RA.grd (i : Nat) {j t : Nat} {want : Bool} (hi : ops[i]? = some o) (hok : takeOk ops listed i = true) (hrd : isRd o = true) (hg : o.guard = some (j, want)) (hj : (ops[j]?).bind (·.dst) = some t) (hf : f t = .bool want) (hd : o.dst = some d) (hn : d < n) (hS : S w)
    (hr : ∀ w, S w → (execOp (ev f) o).run P w = .ok (.value v) w) (h : RA P n ops Q S fuel (listed.setIfInBounds i true) (st f d v) w) : RA P n ops Q S (fuel + 1) listed f w :=
  RA.take0 (S0 := S) i hi hok (.inr ⟨hrd, fun _ h => h⟩) hS hd hn (fun a ha => .inl ⟨by rw [wanted_of ha hg hj hf]; simp, fun w hw => by rw [ha.eval]; exact hr w hw⟩) h
theorem unwanted_of {a : Act} (ha : Fm n f a) {j t : Nat} {want : Bool} (hg : o.guard = some (j, want)) (hj : (ops[j]?).bind (·.dst) = some t) (hf : f t = .bool (!want) ∨ f t = undef) : Region.wanted o (yielded ops a.tmps) = false := by
  rcases hf with hf | hf
  · rw [wanted_of ha hg hj hf]; cases want <;> rfl
  · have hy : yielded ops a.tmps j = none := by
      have h := ha.2.2 t
      rw [hf] at h
      unfold yielded
      rw [hj]
      simp only [Option.bind_some]
      rcases Nat.lt_or_ge t a.tmps.size with hl | hl
      · simp [Array.getD, hl] at h
        simp [hl, h, undef]
      · simp [Array.getElem?_eq_none hl]
    unfold Region.wanted
    simp only [hg, hy]
    rfl
/-- behind a guard that says no, whatever it is that is not done -/
theorem RA.gno (i : Nat) {j t : Nat} {want : Bool} (hi : ops[i]? = some o) (hok : takeOk ops listed i = true) (hg : o.guard = some (j, want)) (hj : (ops[j]?).bind (·.dst) = some t) (hf : f t = .bool (!want) ∨ f t = undef) (hd : o.dst = some d) (hn : d < n)
    (h : RA P n ops Q S fuel (listed.setIfInBounds i true) (st f d undef) w) : RA P n ops Q S (fuel + 1) listed f w :=
  RA.take0 (S0 := fun _ => True) i hi hok (.inl fun _ => trivial) trivial hd hn (fun a ha => .inr ⟨unwanted_of ha hg hj hf, rfl⟩) h

theorem RA.done (hr : Region.ready .any ops listed = []) (h : Q.nrm f w) : RA P n ops Q S fuel listed f w := fun a ha => by
  cases fuel with
  | zero => exact ⟨hr, f, ha, h⟩
  | succ k => exact ⟨fun _ => ⟨f, ha, h⟩, by rw [hr]; simp⟩

/-- Each of 'rs' may come up next. -/
def RS (P : Program) (n : Nat) (ops : Array Oper) (Q : Po) (S : World → Prop) (fuel : Nat) (listed : Array Bool) (f : Nat → Value) (w : World) (rs : List Nat) : Prop :=
  ∀ i ∈ rs, ∀ a, Fm n f a → wpOp P ops (up n Q) i (fun a' w' => Oks ops S i w w' ∧ wpAnyF P ops (up n Q) S fuel (listed.setIfInBounds i true) a' w') a w

theorem RA.all (rs : List Nat) (hr : Region.ready .any ops listed = rs) (hne : rs.isEmpty = false) (h : RS P n ops Q S fuel listed f w rs) : RA P n ops Q S (fuel + 1) listed f w := fun a ha =>
  ⟨fun h0 => by rw [hr] at h0; subst h0; simp at hne, fun i hi => h i (by rw [← hr]; exact hi) a ha⟩

variable {i : Nat} {rs : List Nat}
theorem RS.nil : RS P n ops Q S fuel listed f w [] := fun _ h => by cases h
theorem RS.val (hi : ops[i]? = some o) (hg : o.guard = none) (hd : o.dst = some d) (hn : d < n) (hr : (execOp (ev f) o).run P w = .ok (.value v) w') (hS : Oks ops S i w w')
    (h : RA P n ops Q S fuel (listed.setIfInBounds i true) (st f d v) w') (hs : RS P n ops Q S fuel listed f w rs) : RS P n ops Q S fuel listed f w (i :: rs) := fun j hj => by
  rcases List.mem_cons.1 hj with rfl | hj
  · intro a ha
    unfold wpOp
    simp only [hi, Region.wanted, hg, if_true]
    refine .inl ?_
    unfold Oper.wp
    rw [ha.eval, hr]
    exact ⟨hS, h _ (by rw [hd]; exact ha.put hn v)⟩
  · exact hs j hj
theorem RS.skip (hi : ops[i]? = some o) (hg : o.guard = none) (hd : o.dst = none) (hr : (execOp (ev f) o).run P w = .ok .skip w') (hS : Oks ops S i w w')
    (h : RA P n ops Q S fuel (listed.setIfInBounds i true) f w') (hs : RS P n ops Q S fuel listed f w rs) : RS P n ops Q S fuel listed f w (i :: rs) := fun j hj => by
  rcases List.mem_cons.1 hj with rfl | hj
  · intro a ha
    unfold wpOp
    simp only [hi, Region.wanted, hg, if_true]
    refine .inl ?_
    unfold Oper.wp
    rw [ha.eval, hr]
    exact ⟨hS, h _ (by rw [hd]; exact ha)⟩
  · exact hs j hj
theorem RS.call {k : FuncId} {args : Array Value} {Post : Value → World → Prop} (hi : ops[i]? = some o) (hg : o.guard = none) (hd : o.dst = some d) (hn : d < n) (hr : (execOp (ev f) o).run P w = .ok (.enter k args) w)
    (hc : Calls P k args w fun e w' => ∃ v, e = .returned v ∧ Post v w') (h : ∀ v w', Post v w' → Oks ops S i w w' ∧ RA P n ops Q S fuel (listed.setIfInBounds i true) (st f d v) w')
    (hs : RS P n ops Q S fuel listed f w rs) : RS P n ops Q S fuel listed f w (i :: rs) := fun j hj => by
  rcases List.mem_cons.1 hj with rfl | hj
  · intro a ha
    unfold wpOp
    simp only [hi, Region.wanted, hg, if_true]
    refine .inl ?_
    unfold Oper.wp
    rw [ha.eval, hr]
    refine hc.mono fun e w1 ⟨u, he, hp⟩ => ?_
    subst he
    obtain ⟨h1, h2⟩ := h u w1 hp
    exact ⟨h1, h2 _ (by rw [hd]; exact ha.put hn u)⟩
  · exact hs j hj
/-- one that is behind a guard that says yes -/
theorem RS.gcall {j0 t : Nat} {want : Bool} {k : FuncId} {args : Array Value} {Post : Value → World → Prop} (hi : ops[i]? = some o) (hg : o.guard = some (j0, want)) (hj0 : (ops[j0]?).bind (·.dst) = some t) (hf : f t = .bool want) (hd : o.dst = some d) (hn : d < n) (hr : (execOp (ev f) o).run P w = .ok (.enter k args) w)
    (hc : Calls P k args w fun e w' => ∃ v, e = .returned v ∧ Post v w') (h : ∀ v w', Post v w' → Oks ops S i w w' ∧ RA P n ops Q S fuel (listed.setIfInBounds i true) (st f d v) w')
    (hs : RS P n ops Q S fuel listed f w rs) : RS P n ops Q S fuel listed f w (i :: rs) := fun j hj => by
  rcases List.mem_cons.1 hj with rfl | hj
  · intro a ha
    unfold wpOp
    simp only [hi, wanted_of ha hg hj0 hf, BEq.rfl, if_true]
    refine .inl ?_
    unfold Oper.wp
    rw [ha.eval, hr]
    refine hc.mono fun e w1 ⟨u, he, hp⟩ => ?_
    subst he
    obtain ⟨h1, h2⟩ := h u w1 hp
    exact ⟨h1, h2 _ (by rw [hd]; exact ha.put hn u)⟩
  · exact hs j hj
/-- one that is behind a guard that says no: a call, say -/
theorem RS.gno {j0 t : Nat} {want : Bool} (hi : ops[i]? = some o) (hg : o.guard = some (j0, want)) (hj0 : (ops[j0]?).bind (·.dst) = some t) (hf : f t = .bool (!want) ∨ f t = undef) (hd : o.dst = some d) (hn : d < n) (hS : Oks ops S i w w)
    (h : RA P n ops Q S fuel (listed.setIfInBounds i true) (st f d undef) w) (hs : RS P n ops Q S fuel listed f w rs) : RS P n ops Q S fuel listed f w (i :: rs) := fun j hj => by
  rcases List.mem_cons.1 hj with rfl | hj
  · intro a ha
    unfold wpOp
    simp only [hi, unwanted_of ha hg hj0 hf, Bool.false_eq_true, if_false]
    exact ⟨hS, h _ (by rw [hd]; exact ha.put hn undef)⟩
  · exact hs j hj
end ra
end Go.Vg
