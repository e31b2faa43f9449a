/- Regions that draw their order, over classes of worlds: an operation that yields one value in every world of the class, and leaves what was there as it was, is taken when one likes; the others come up in whatever order, each strengthening the class. -/
import Derived.Test.YthbobmpeaemdnaaDoorLibC
namespace Go.Jal
open Go Go.RowKit

section
variable {P : Program} {ops : Array Oper} {Q : Exit → Act → World → Prop} {md : Region.Mode}

/-- A class that does not look at new blocks, nor at draws. -/
def Cls (S : World → Prop) : Prop := ∀ w w', S w → Below w.heap.size w w' → S w'

theorem St.cls {w0 w w' : World} {M : List Nat} {L : List (Nat × Obj)} (h : St w0 M L w) (hb : Below w.heap.size w w') : St w0 M L w' :=
  ⟨hb.os.trans h.os, hb.tape.trans h.tape, hb.output.trans h.output, Nat.le_trans h.size hb.size, fun p m => by rw [hb.block _ (h.fresh p m)]; exact h.own p m, h.nodup, h.new,
    fun k hk hM => by rw [hb.block k (by have := h.size; omega)]; exact h.old k hk hM⟩
theorem cls_st (w0 : World) (M : List Nat) (L : List (Nat × Obj)) : Cls (St w0 M L) := fun _ _ h hb => h.cls hb
theorem cls_ex {α : Type} {S : α → World → Prop} (h : ∀ x, Cls (S x)) : Cls (fun w => ∃ x, S x w) := fun w w' ⟨x, hx⟩ hb => ⟨x, h x w w' hx hb⟩

/-- what is asked of an operation that was carried out: one value; what was there stays. -/
def quietU (P : Program) (w : World) (v : Value) : Result Next → Prop
  | .ok (.value u) w' => u = v ∧ Below w.heap.size w w'
  | .ok .skip w' => v = undef ∧ Below w.heap.size w w'
  | .ok (.enter f args) w' => Calls P f args w' (fun e w'' => e = .returned v ∧ Below w.heap.size w w'')
  | .ok (.row r args) w' => Rows P r args w' (fun u w'' => u = v ∧ Below w.heap.size w w'')
  | _ => False
def YieldsB (P : Program) (ops : Array Oper) (S : World → Prop) (o : Oper) (v : Value) (a : Act) : Prop :=
  (Region.wanted o (yielded ops a.tmps) = true ∧ ∀ w, S w → quietU P w v ((execOp a.eval o).run P w)) ∨ (Region.wanted o (yielded ops a.tmps) = false ∧ v = undef)
theorem YieldsB.mono {S S' : World → Prop} {o : Oper} {v : Value} {a : Act} (h : YieldsB P ops S o v a) (hs : ∀ w, S' w → S w) : YieldsB P ops S' o v a :=
  h.imp (fun ⟨h1, h2⟩ => ⟨h1, fun w hw => h2 w (hs w hw)⟩) id
theorem YieldsB.of_same {S : World → Prop} {o : Oper} {v : Value} {a a' : Act} (hy : YieldsB P ops S o v a) (he : execOp a'.eval o = execOp a.eval o)
    (hw : Region.wanted o (yielded ops a'.tmps) = Region.wanted o (yielded ops a.tmps)) : YieldsB P ops S o v a' := by
  unfold YieldsB at *
  rw [he, hw]
  exact hy
theorem YieldsB.wpOp {S : World → Prop} {i : Nat} {o : Oper} {v : Value} {a : Act} (hi : ops[i]? = some o) (hy : YieldsB P ops S o v a) {K : Act → World → Prop} {w : World} (hS : S w)
    (h : ∀ w', Below w.heap.size w w' → K (a.put o.dst v) w') : wpOp P ops Q i K a w := by
  unfold Go.wpOp
  simp only [hi]
  rcases hy with ⟨hw, hv⟩ | ⟨hw, rfl⟩
  · simp only [hw, if_true]
    refine .inl ?_
    have h3 := hv w hS
    unfold Oper.wp
    generalize (execOp a.eval o).run P w = r at *
    cases r with
    | ok n w' =>
      cases n <;> simp only [quietU] at h3 <;> simp only [Oper.upon]
      case value u => obtain ⟨rfl, hb⟩ := h3; exact h _ hb
      case skip => obtain ⟨rfl, hb⟩ := h3; exact h _ hb
      case enter f args => exact Calls.mono h3 fun e w'' ⟨he, hw''⟩ => by subst he; exact h _ hw''
      case row r args => exact Rows.mono h3 fun u w'' ⟨he, hw''⟩ => by subst he; exact h _ hw''
    | halt x w' => simp only [quietU] at h3
  · simp only [hw, Bool.false_eq_true, if_false]; exact h _ (Below.refl _ _)

/-- Each other is bound ahead of it or behind it (by five steps at most). -/
def anc (md : Region.Mode) (ops : Array Oper) : Nat → Nat → Nat → Bool
  | 0, _, _ => false
  | f + 1, j, i => match ops[j]? with
    | none => false
    | some oj => oj.after.any fun e => Region.binds md e && (e.on == i || anc md ops f e.on i)
def lastOp (md : Region.Mode) (ops : Array Oper) (i : Nat) : Bool := (List.range ops.size).all fun j => j == i || anc md ops 5 i j || anc md ops 5 j i
/-- A program that neither reads nor writes the world; what it gives has q. -/
def Still {α : Type} (q : α → Prop) : Sem α → Prop
  | .pure a => q a
  | .program k => ∀ p, Still q (k p)
  | .mark _ k => Still q k
  | .halt _ => True
  | _ => False
def Any {α : Type} : α → Prop := fun _ => True
theorem Still.run {α : Type} {P : Program} {q : α → Prop} : ∀ (m : Sem α), Still q m → (∃ a, q a ∧ ∀ w, m.run P w = .ok a w) ∨ (∃ h, ∀ w, m.run P w = .halt h w)
  | .pure a, h => .inl ⟨a, h, fun _ => rfl⟩
  | .program k, h => by
    rcases Still.run (k P) (h P) with ⟨a, hq, ha⟩ | ⟨x, hx⟩
    · exact .inl ⟨a, hq, fun w => ha w⟩
    · exact .inr ⟨x, fun w => hx w⟩
  | .mark _ k, h => by
    rcases Still.run k h with ⟨a, hq, ha⟩ | ⟨x, hx⟩
    · exact .inl ⟨a, hq, fun w => ha w⟩
    · exact .inr ⟨x, fun w => hx w⟩
  | .halt x, _ => .inr ⟨x, fun _ => rfl⟩
theorem Still.bind {α β : Type} {q : β → Prop} {f : α → Sem β} : ∀ (m : Sem α), Still Any m → (∀ a, Still q (f a)) → Still q (m >>= f)
  | .pure a, _, hf => hf a
  | .program k, h, hf => fun p => Still.bind (k p) (h p) hf
  | .mark _ k, h, hf => Still.bind k h hf
  | .halt _, _, _ => trivial
theorem still_info (t : TypeId) : Still Any (typeInfo t) := fun p => by
  show Still Any (match p.info? t with | some i => Sem.pure i | none => stuck "no such type")
  cases p.info? t <;> trivial
theorem still_und (t : TypeId) : Still Any (underlying t) := fun p => by
  show Still Any (match p.underlying t with | some d => Sem.pure d | none => stuck "no such type")
  cases p.underlying t <;> trivial
theorem still_size (t : TypeId) : Still Any (sizeOf t) := Still.bind _ (still_info t) fun _ => trivial
theorem still_nil {α : Type} {q : α → Prop} : Still q (runtimePanic (α := α) .nilDeref) := fun _ => trivial
theorem still_part (t : TypeId) (cs : Array Value) (o : Nat) : Still Any (part t cs o) := by
  unfold part
  refine Still.bind _ (Still.bind _ (still_und t) fun d => ?_) fun b => ?_
  · cases d <;> trivial
  · cases b with
    | true => exact Still.bind _ (still_size t) fun _ => trivial
    | false =>
      show Still Any (match cs[o]? with | some v => Sem.pure v | none => stuck "part: no such cell")
      cases cs[o]? <;> trivial
theorem still_blind : ∀ (l : List FieldStep) (t : TypeId) (x : Option Value), Still Any (followBlind l t x)
  | [], _, _ => trivial
  | s :: rest, t, x => by
    unfold followBlind
    refine Still.bind _ (still_und _) fun d => ?_
    split
    · split
      · split
        · trivial
        · exact still_blind _ _ _
        · trivial
        · trivial
        · exact Still.bind _ (still_part _ _ _) fun _ => still_blind _ _ _
        · trivial
        · exact still_blind _ _ _
      · trivial
    · trivial
theorem still_ahead : ∀ (f : Nat) (t : TypeId) (v : Value) (s : String), Still Any (nilAhead f t v s)
  | 0, _, _, _ => trivial
  | f + 1, t, v, s => by
    unfold nilAhead
    refine Still.bind _ (still_info _) fun i => ?_
    split
    · refine Still.bind _ (still_blind _ _ _) fun r => ?_
      split
      · trivial
      · split
        · exact still_ahead f _ _ _
        · trivial
        · trivial
        · trivial
        · trivial
        · refine Still.bind _ (still_und _) fun d => ?_
          split <;> trivial
    · trivial
/-- an operation that asks nothing of the world -/
def stillOp (P : Program) (o : Oper) : Bool := match o.op with
  | .move _ => true
  | .nilCheck _ => true
  | .fieldAddr s _ f => match P.underlying s with
    | some (.struct fields) => (match fields[f]? with | some fd => (match P.info? fd.type with | some i => i.size != 0 | none => false) | none => false)
    | _ => false
  | _ => false
def moveAt (P : Program) (ops : Array Oper) (j : Nat) : Bool := match ops[j]? with
  | some o => stillOp P o
  | none => false
/-- Each other is bound ahead of it, or behind it, or asks nothing of the world. -/
def lastW (P : Program) (md : Region.Mode) (ops : Array Oper) (i : Nat) : Bool := (List.range ops.size).all fun j => j == i || anc md ops 5 i j || anc md ops 5 j i || moveAt P ops j
/-- What is listed is closed under what binds. -/
def Down (md : Region.Mode) (ops : Array Oper) (listed : Array Bool) : Prop :=
  ∀ (j : Nat) (oj : Oper), ops[j]? = some oj → listed.getD j false = true → ∀ e ∈ oj.after, Region.binds md e = true → listed.getD e.on false = true
def downB (md : Region.Mode) (ops : Array Oper) (listed : Array Bool) : Bool :=
  (List.range ops.size).all fun j => match ops[j]? with
    | none => true
    | some oj => !(listed.getD j false) || oj.after.all fun e => !(Region.binds md e) || listed.getD e.on false
theorem down_of {listed : Array Bool} (h : downB md ops listed = true) : Down md ops listed := by
  intro j oj hj hl e he hb
  unfold downB at h
  have h1 := (List.all_eq_true.1 h) j (List.mem_range.2 (Array.getElem?_eq_some_iff.1 hj).1)
  rw [hj] at h1
  simp only [hl, Bool.not_true, Bool.false_or] at h1
  have h2 := Array.all_eq_true'.1 h1 e he
  simpa [hb] using h2
theorem getD_set_true {listed : Array Bool} {j m : Nat} (h : listed.getD m false = true) : (listed.setIfInBounds j true).getD m false = true := by
  simp only [Array.getD_eq_getD_getElem?] at h ⊢
  rcases Nat.lt_or_ge m listed.size with c | c
  · by_cases e : j = m
    · subst e; simp [c]
    · rw [Array.getElem?_setIfInBounds_ne e]; exact h
  · simp [Array.getElem?_eq_none c] at h
theorem Down.set {listed : Array Bool} (h : Down md ops listed) {i : Nat} {oi : Oper} (hi : ops[i]? = some oi) (ha : ∀ e ∈ oi.after, Region.binds md e = true → listed.getD e.on false = true) : Down md ops (listed.setIfInBounds i true) := by
  intro j oj hj hl e he hb
  by_cases c : j = i
  · subst c
    rw [hi] at hj; cases hj
    exact getD_set_true (ha e he hb)
  · refine getD_set_true (h j oj hj ?_ e he hb)
    simp only [Array.getD_eq_getD_getElem?] at hl ⊢
    rwa [Array.getElem?_setIfInBounds_ne (Ne.symm c)] at hl
theorem anc_listed {listed : Array Bool} (hd : Down md ops listed) : ∀ (f j i : Nat) (oj : Oper), ops[j]? = some oj → (∀ e ∈ oj.after, Region.binds md e = true → listed.getD e.on false = true) → anc md ops f j i = true → listed.getD i false = true
  | 0, _, _, _, _, _, h => by simp [anc] at h
  | f + 1, j, i, oj, hj, ha, h => by
    unfold anc at h
    simp only [hj] at h
    obtain ⟨e, he, h2⟩ := Array.any_eq_true'.1 h
    simp only [Bool.and_eq_true, Bool.or_eq_true, beq_iff_eq] at h2
    obtain ⟨hb, h2⟩ := h2
    rcases h2 with h2 | h2
    · rw [← h2]; exact ha e he hb
    · cases ho : ops[e.on]? with
      | none => cases f <;> simp [anc, ho] at h2
      | some o => exact anc_listed hd f e.on i o ho (fun e' he' hb' => hd e.on o ho (ha e he hb) e' he' hb') h2
theorem anc_clash {i j : Nat} {oi oj : Oper} {listed : Array Bool} (h1 : anc md ops 5 i j = true ∨ anc md ops 5 j i = true) (hi : ops[i]? = some oi) (hj : ops[j]? = some oj) (hd : Down md ops listed)
    (ha : ∀ e ∈ oi.after, Region.binds md e = true → listed.getD e.on false = true) (hb : ∀ e ∈ oj.after, Region.binds md e = true → listed.getD e.on false = true) (hun : listed.getD j true = false) (hun' : listed.getD i true = false) : False := by
  have key : ∀ k, listed.getD k false = true → listed.getD k true = false → False := fun k h2 hun => by
    simp only [Array.getD_eq_getD_getElem?] at h2 hun
    cases q : listed[k]? with
    | none => simp [q] at hun
    | some b => simp only [q, Option.getD_some] at h2 hun; rw [h2] at hun; cases hun
  rcases h1 with h1 | h1
  · exact key j (anc_listed hd 5 i j oi hi ha h1) hun
  · exact key i (anc_listed hd 5 j i oj hj hb h1) hun'
theorem lastOp_spec {i j : Nat} {oi oj : Oper} {listed : Array Bool} (h : lastOp md ops i = true) (hi : ops[i]? = some oi) (hj : ops[j]? = some oj) (hne : j ≠ i) (hd : Down md ops listed)
    (ha : ∀ e ∈ oi.after, Region.binds md e = true → listed.getD e.on false = true) (hb : ∀ e ∈ oj.after, Region.binds md e = true → listed.getD e.on false = true) (hun : listed.getD j true = false) (hun' : listed.getD i true = false) : False := by
  unfold lastOp at h
  have h1 := (List.all_eq_true.1 h) j (List.mem_range.2 (Array.getElem?_eq_some_iff.1 hj).1)
  simp only [Bool.or_eq_true, beq_iff_eq] at h1
  rcases h1 with (h1 | h1) | h1
  · exact hne h1
  · exact anc_clash (.inl h1) hi hj hd ha hb hun hun'
  · exact anc_clash (.inr h1) hi hj hd ha hb hun hun'

/-- Whatever order is picked from here on, from every world of the class S. -/
def wpAnyG (P : Program) (md : Region.Mode) (ops : Array Oper) (Q : Exit → Act → World → Prop) : Nat → (World → Prop) → Array Bool → Act → Prop
  | 0, S, listed, a => Region.ready md ops listed = [] ∧ ∀ w, S w → Q .normal a w
  | fuel + 1, S, listed, a =>
    (Region.ready md ops listed = [] → ∀ w, S w → Q .normal a w) ∧
    ∀ i ∈ Region.ready md ops listed, ∀ w, S w → wpOp P ops Q i (fun a' w' => ∃ S' : World → Prop, S' w' ∧ (((∀ w, S' w → S w) ∧ Cls S') ∨ lastOp md ops i = true ∨ (lastW P md ops i = true ∧ Cls S')) ∧ wpAnyG P md ops Q fuel S' (listed.setIfInBounds i true) a') a w

theorem wpAny_of_G : ∀ (fuel : Nat) (S : World → Prop) (listed : Array Bool) (a : Act) (w : World), S w → wpAnyG P md ops Q fuel S listed a → wpAny P md ops Q fuel listed a w
  | 0, _, _, _, w, hS, h => ⟨h.1, h.2 w hS⟩
  | fuel + 1, _, _, _, w, hS, h => ⟨fun h0 => h.1 h0 w hS, fun i hi => wpOp_mono (fun a' w' ⟨_, h1, _, h4⟩ => wpAny_of_G fuel _ _ a' w' h1 h4) (h.2 i hi w hS)⟩

theorem wpOp_putB {S : World → Prop} {j : Nat} {oi oj : Oper} {v : Value} (hj : ops[j]? = some oj) (hap : oi.apart ops oj = true)
    (hsi : ∀ cs b, oi.op ≠ .select cs b) (hsj : ∀ cs b, oj.op ≠ .select cs b)
    (hQ : ∀ c a w, Q (.panic c) (a.put oi.dst v) w → Q (.panic c) a w) {K : Act → World → Prop} {a : Act} {w : World}
    (hy : YieldsB P ops S oi v a) (h : wpOp P ops Q j K (a.put oi.dst v) w) :
    wpOp P ops Q j (fun a' w' => YieldsB P ops S oi v a' ∧ K (a'.put oi.dst v) w') a w := by
  obtain ⟨h1, h2, h3⟩ := Oper.apart_spec hap
  have keep : ∀ (a : Act), YieldsB P ops S oi v a → ∀ u, YieldsB P ops S oi v (a.put oj.dst u) := fun a hy u =>
    hy.of_same (execOp_put oi hsi a oj.dst u h3) (wanted_put oi a oj.dst u h3)
  have keepD : ∀ d, YieldsB P ops S oi v { a with defers := d :: a.defers } := fun d => hy.of_same rfl rfl
  unfold wpOp at *
  simp only [hj] at *
  rw [wanted_put oj a oi.dst v h1] at h
  split
  · rename_i hw
    simp only [hw, if_true] at h
    rcases h with h | ⟨hasks, hlets⟩
    case inr => exact .inr ⟨by unfold Oper.asks at *; rw [execOp_put oj hsj a oi.dst v h1] at hasks; exact hasks, hlets⟩
    refine .inl ?_
    unfold Oper.wp at *
    rw [execOp_put oj hsj a oi.dst v h1] at h
    generalize (execOp a.eval oj).run P w = r at *
    cases r with
    | ok n w' =>
      cases n <;> simp only [Oper.upon] at h ⊢
      case value u => exact ⟨keep a hy u, by rw [← Act.put_comm a v u h2]; exact h⟩
      case skip => exact ⟨keep a hy _, by rw [← Act.put_comm a v undef h2]; exact h⟩
      case defer d =>
        refine ⟨keep _ (keepD d) _, ?_⟩
        rw [← Act.put_comm _ v undef h2, ← Act.put_defers]
        exact h
      case enter f args =>
        refine Calls.mono h fun e w'' he => ?_
        cases e with
        | returned u => exact ⟨keep a hy u, by rw [← Act.put_comm a v u h2]; exact he⟩
        | panicked c => exact hQ _ _ _ he
        | outgrown => exact he
      case row row args => exact Rows.mono h fun u w'' he => ⟨keep a hy u, by rw [← Act.put_comm a v u h2]; exact he⟩
    | halt x w' =>
      cases x <;> simp only [Oper.upon] at h ⊢
      case panic u => exact hQ _ _ _ h
  · rename_i hw
    simp only [hw] at h
    exact ⟨keep a hy _, by rw [← Act.put_comm a v undef h2]; exact h⟩

theorem still_run {o : Oper} (h : stillOp P o = true) (ρ : Operand → Value) : (∃ u, ∀ w, (execOp ρ o).run P w = .ok (.value u) w) ∨ (∃ x, ∀ w, (execOp ρ o).run P w = .halt x w) := by
  unfold stillOp at h
  split at h
  · rename_i x hx
    exact .inl ⟨ρ x, fun w => by unfold execOp; simp [hx]⟩
  · rename_i x hx
    have key : Still (fun n => ∃ u, n = Next.value u) (execOp ρ o) := by
      unfold execOp
      simp only [hx]
      split
      · exact still_nil
      · exact still_nil
      · exact still_nil
      · split
        · exact still_nil
        · refine Still.bind _ (fun _ => trivial) fun p => ?_
          refine Still.bind _ (still_ahead _ _ _ _) fun r => ?_
          split
          · trivial
          · exact ⟨_, rfl⟩
        · exact ⟨_, rfl⟩
      · exact ⟨_, rfl⟩
    rcases Still.run _ key with ⟨n, ⟨u, rfl⟩, hn⟩ | hx
    · exact .inl ⟨u, hn⟩
    · exact .inr hx
  · rename_i s x f hx
    split at h
    · rename_i fields hu
      split at h
      · rename_i fd hfd
        split at h
        · rename_i inf hi
          have hs : inf.size ≠ 0 := by simpa using h
          cases hv : ρ x with
          | pointer ad =>
            cases ad with
            | none => exact .inr ⟨_, fun w => by unfold execOp; simp [hx, hv, Instr.fieldAt, run_underlying hu, hfd, Instr.sureAddr]; rfl⟩
            | some ad => exact .inl ⟨_, fun w => by unfold execOp; simp [hx, hv, Instr.fieldAt, run_underlying hu, hfd, Instr.sureAddr, fieldPlace, sizeOf, typeInfo, hi, hs]; rfl⟩
          | _ => exact .inr ⟨_, fun w => by unfold execOp; simp [hx, hv, Instr.fieldAt, run_underlying hu, hfd, Instr.sureAddr]; rfl⟩
        · cases h
      · cases h
    · cases h
  · cases h
theorem YieldsB.move {S S' : World → Prop} {o : Oper} {v : Value} {a : Act} {w0 : World} (hmv : stillOp P o = true) (h0 : S w0) (hy : YieldsB P ops S o v a) : YieldsB P ops S' o v a := by
  rcases hy with ⟨hw, hv⟩ | h
  · refine .inl ⟨hw, fun w _ => ?_⟩
    have h1 := hv w0 h0
    rcases still_run hmv a.eval with ⟨u, hu⟩ | ⟨x, hx⟩
    · rw [hu] at h1 ⊢
      exact ⟨h1.1, Below.refl _ _⟩
    · rw [hx] at h1
      exact h1.elim
  · exact .inr h
theorem wpAnyG_first {i : Nat} {oi : Oper} {v : Value} (hi : ops[i]? = some oi) (hsel : ∀ (j : Nat) (o : Oper) cs b, ops[j]? = some o → o.op ≠ .select cs b)
    (hQ : ∀ c a w, Q (.panic c) (a.put oi.dst v) w → Q (.panic c) a w) :
    ∀ (fuel : Nat) (S : World → Prop) (listed : Array Bool) (a : Act),
      (∀ j oj, ops[j]? = some oj → j ≠ i → listed.getD j true = false → (∀ e ∈ oj.after, Region.binds md e = true → e.on ≠ i) → oi.apart ops oj = true) →
      Down md ops listed → i ∈ Region.ready md ops listed → YieldsB P ops S oi v a → Cls S →
      wpAnyG P md ops Q fuel S (listed.setIfInBounds i true) (a.put oi.dst v) → wpAnyG P md ops Q (fuel + 1) S listed a := by
  intro fuel
  induction fuel with
  | zero =>
    intro S listed a _ hdn hr hy hC H
    refine ⟨fun h => (by rw [h] at hr; cases hr), fun j hj w hS => ?_⟩
    by_cases hji : j = i
    · subst hji; exact hy.wpOp hi hS fun w' hb => ⟨S, hC _ _ hS hb, .inl ⟨fun _ h => h, hC⟩, H⟩
    · have := ready_mono hj hji
      rw [H.1] at this
      cases this
  | succ fuel ih =>
    intro S listed a hfree hdn hr hy hC H
    refine ⟨fun h => (by rw [h] at hr; cases hr), fun j hj w hS => ?_⟩
    by_cases hji : j = i
    · subst hji; exact hy.wpOp hi hS fun w' hb => ⟨S, hC _ _ hS hb, .inl ⟨fun _ h => h, hC⟩, H⟩
    · have h1 := H.2 j (ready_mono hj hji) w hS
      obtain ⟨hjun, oj, hoj, hall⟩ := mem_ready.1 hj
      have hnot : ∀ e ∈ oj.after, Region.binds md e = true → e.on ≠ i := fun e he hb heq => by
        have h1 := hall e he hb
        have h0 := (mem_ready.1 hr).1
        rw [heq] at h1
        rcases Nat.lt_or_ge i listed.size with h' | h'
        · simp [h'] at h0 h1; rw [h0] at h1; cases h1
        · simp [Array.getElem?_eq_none h'] at h1
      have h2 := wpOp_putB hoj (hfree j oj hoj hji hjun hnot) (fun cs b => hsel i oi cs b hi) (fun cs b => hsel j oj cs b hoj) hQ hy h1
      have hfree' : ∀ k ok, ops[k]? = some ok → k ≠ i → (listed.setIfInBounds j true).getD k true = false →
          (∀ e ∈ ok.after, Region.binds md e = true → e.on ≠ i) → oi.apart ops ok = true := fun k ok hk hki hun hno => by
        refine hfree k ok hk hki ?_ hno
        by_cases hjk : j = k
        · subst hjk; exact hjun
        · rw [getD_set_ne true hjk] at hun; exact hun
      refine wpOp_mono (fun a' w' ⟨hya, S', h1', h2', h4'⟩ => ⟨S', h1', h2', ?_⟩) h2
      rcases h2' with ⟨h2', h3'⟩ | hlast | ⟨hW, h3'⟩
      · refine ih S' (listed.setIfInBounds j true) a' hfree' (hdn.set hoj hall) (ready_mono hr (Ne.symm hji)) (hya.mono h2') h3' ?_
        rw [Array.setIfInBounds_comm _ _ hji]
        exact h4'
      · obtain ⟨hiun, oi', hoi', hall'⟩ := mem_ready.1 hr
        exact (lastOp_spec hlast hoj hoi' (Ne.symm hji) hdn hall hall' hiun hjun).elim
      · obtain ⟨hiun, oi', hoi', hall'⟩ := mem_ready.1 hr
        unfold lastW at hW
        have h1 := (List.all_eq_true.1 hW) i (List.mem_range.2 (Array.getElem?_eq_some_iff.1 hi).1)
        simp only [Bool.or_eq_true, beq_iff_eq] at h1
        rcases h1 with ((h1 | h1) | h1) | h1
        · exact absurd h1.symm hji
        · exact (anc_clash (.inl h1) hoj hoi' hdn hall hall' hiun hjun).elim
        · exact (anc_clash (.inr h1) hoj hoi' hdn hall hall' hiun hjun).elim
        · have hmv : stillOp P oi = true := by unfold moveAt at h1; rw [hi] at h1; exact h1
          refine ih S' (listed.setIfInBounds j true) a' hfree' (hdn.set hoj hall) (ready_mono hr (Ne.symm hji)) (YieldsB.move hmv hS hya) h3' ?_
          rw [Array.setIfInBounds_comm _ _ hji]
          exact h4'

/-- THE WALK of operations that are taken: the list of their numbers. -/
def wpTake (P : Program) (ops : Array Oper) (S : World → Prop) (N : Act → Prop) : List Nat → Act → Prop
  | [], a => N a
  | i :: is, a => ∃ o v, ops[i]? = some o ∧ YieldsB P ops S o v a ∧ wpTake P ops S N is (a.put o.dst v)
/-- They may be taken in this order. -/
def mayTake (md : Region.Mode) (ops : Array Oper) : List Nat → Array Bool → Bool
  | [], _ => true
  | i :: is, listed => downB md ops listed && Region.free md ops listed i && (Region.ready md ops listed).contains i && mayTake md ops is (listed.setIfInBounds i true)
def taken : List Nat → Array Bool → Array Bool
  | [], l => l
  | i :: is, l => taken is (l.setIfInBounds i true)
/-- Q says nothing of the frame at a panic. -/
def PanicFree (Q : Exit → Act → World → Prop) : Prop := ∀ (c : List PanicEntry) (a : Act) (d : Nat) (v : Value) (w : World), Q (.panic c) (a.put (some d) v) w → Q (.panic c) a w
theorem PanicFree.put {Q : Exit → Act → World → Prop} (h : PanicFree Q) (d : Option Tmp) (v : Value) : ∀ c a w, Q (.panic c) (a.put d v) w → Q (.panic c) a w := by
  intro c a w hq
  cases d with
  | none => exact hq
  | some d => exact h c a d v w hq

theorem wpAnyG_take (hs : Region.noSelect ops = true) (hQ : PanicFree Q) {S : World → Prop} (hC : Cls S) {fuel : Nat} : ∀ (is : List Nat) (listed : Array Bool) (a : Act), mayTake md ops is listed = true →
    wpTake P ops S (wpAnyG P md ops Q fuel S (taken is listed)) is a → wpAnyG P md ops Q (fuel + is.length) S listed a
  | [], _, _, _, h => h
  | i :: is, listed, a, hm, ⟨o, v, ho, hy, h⟩ => by
    simp only [mayTake, Bool.and_eq_true] at hm
    exact wpAnyG_first ho (Region.noSelect_spec hs) (hQ.put _ _) _ S listed a (Region.free_spec ho hm.1.1.2) (down_of hm.1.1.1) (by simpa using hm.1.2) hy hC
      (wpAnyG_take hs hQ hC is _ _ hm.2 h)

/-- THE BEGINNING. -/
theorem rg_start {id : Nat} {a : Act} {w : World} (S : World → Prop) (hm : P.follows .mixedOrders = true) (hS : S w.drew)
    (h : wpAnyG P .any ops Q ops.size S (Array.replicate ops.size false) a) : (Code.region id ops true).wp P Q a w :=
  wp_region_any hm (wpAny_of_G _ S _ _ _ hS h)
/-- Some are taken. ('n': how many are left behind them.) -/
theorem rg_take {S : World → Prop} {listed l' : Array Bool} {a : Act} (is : List Nat) (n m : Nat) (hn : m = n + is.length) (hs : Region.noSelect ops = true) (hm : mayTake .any ops is listed = true) (hl : taken is listed = l') (hC : Cls S) (hQ : PanicFree Q)
    (h : wpTake P ops S (wpAnyG P .any ops Q n S l') is a) : wpAnyG P .any ops Q m S listed a := by
  subst hn; subst hl; exact wpAnyG_take hs hQ hC is listed a hm h
/-- One that may come up is the only one. -/
theorem rg_one {S : World → Prop} {listed l' : Array Bool} {a : Act} {n : Nat} (i : Nat) (o : Oper) (hr : Region.ready .any ops listed = [i]) (ho : ops[i]? = some o) (hl : listed.setIfInBounds i true = l')
    (hw : Region.wanted o (yielded ops a.tmps) = true)
    (h : ∀ w, S w → ∀ K : Act → World → Prop, (∀ a' w' (S' : World → Prop), S' w' → (((∀ w, S' w → S w) ∧ Cls S') ∨ lastOp .any ops i = true ∨ (lastW P .any ops i = true ∧ Cls S')) → wpAnyG P .any ops Q n S' l' a' → K a' w') → o.wp P a w K Q) : wpAnyG P .any ops Q (n + 1) S listed a := by
  subst hl
  refine ⟨fun h0 => (by rw [hr] at h0; cases h0), fun j hj w hS => ?_⟩
  rw [hr] at hj
  obtain rfl : j = i := by simpa using hj
  unfold wpOp
  simp only [ho, hw, if_true]
  exact .inl (h w hS _ fun a' w' S' h1 h2 h4 => ⟨S', h1, h2, h4⟩)
theorem rg_done {S : World → Prop} {listed : Array Bool} {a : Act} (hr : Region.ready .any ops listed = []) (h : ∀ w, S w → Q .normal a w) : ∀ n, wpAnyG P .any ops Q n S listed a
  | 0 => ⟨hr, h⟩
  | _ + 1 => ⟨fun _ => h, fun j hj => (by rw [hr] at hj; cases hj)⟩
end

/-! ### the operations taken -/
def nth {α : Type} : List α → Nat → Option α
  | [], _ => none
  | x :: _, 0 => some x
  | _ :: l, i + 1 => nth l i
theorem nth_eq {α : Type} : ∀ (l : List α) (i : Nat), nth l i = l[i]?
  | [], _ => rfl
  | _ :: _, 0 => rfl
  | _ :: l, i + 1 => by simp [nth, nth_eq l i]
theorem get_of_nth {l : List Oper} {i : Nat} {o : Oper} (h : nth l i = some o) : l.toArray[i]? = some o := by rw [nth_eq] at h; simpa using h
section
variable {P : Program} {lops : List Oper} {S : World → Prop} {N : Act → Prop} {i : Nat} {is : List Nat} {o : Oper} {a a' : Act}

def NoQ : Exit → Act → World → Prop := fun _ _ _ => False
theorem tk_nil (h : N a) : wpTake P lops.toArray S N [] a := h
/-- Not wanted. -/
theorem tk_skip (ho : nth lops i = some o) (hw : Region.wanted o (yielded lops.toArray a.tmps) = false) (ha : a.put o.dst undef = a' := by (conv => lhs; simp only [Go.Jal.put_lit, Go.Jal.put_none, Go.Jal.setL]) <;> rfl) (hk : wpTake P lops.toArray S N is a') : wpTake P lops.toArray S N (i :: is) a :=
  ⟨o, undef, get_of_nth ho, .inr ⟨hw, rfl⟩, ha ▸ hk⟩
/-- One value, whatever the world. -/
theorem tk_val {v : Value} (ho : nth lops i = some o) (hw : Region.wanted o (yielded lops.toArray a.tmps) = true) (hr : ∀ w, S w → (execOp a.eval o).run P w = .ok (.value v) w) (ha : a.put o.dst v = a' := by (conv => lhs; simp only [Go.Jal.put_lit, Go.Jal.put_none, Go.Jal.setL]) <;> rfl) (hk : wpTake P lops.toArray S N is a') :
    wpTake P lops.toArray S N (i :: is) a :=
  ⟨o, v, get_of_nth ho, .inl ⟨hw, fun w hS => by rw [hr w hS]; exact ⟨rfl, Below.refl _ _⟩⟩, ha ▸ hk⟩
/-- By a walk of the operation alone: what is in the frame behind it, whatever the world of the class; what was there stays. -/
theorem tk_wp {d : Tmp} (ho : nth lops i = some o := by exact rfl) (hd : o.dst = some d := by exact rfl) (hsz' : Nat.blt d a.tmps.size = true := by exact rfl) (hw : Region.wanted o (yielded lops.toArray a.tmps) = true := by rfl)
    (h : ∀ w, S w → ∀ K : Act → World → Prop, (∀ w', Below w.heap.size w w' → K a' w') → o.wp P a w K NoQ := by intro w hst K hK; go_step; exact hK _ (Go.RowKit.Below.refl _ _))
    (hput : a.put o.dst (a'.tmps.getD d undef) = a' := by rfl) (hdf : a'.defers = a.defers := by rfl) (hk : wpTake P lops.toArray S N is a') : wpTake P lops.toArray S N (i :: is) a := by
  have hsz : d < a.tmps.size := by simpa using hsz'
  have key : ∀ u, a.put o.dst u = a' → u = a'.tmps.getD d undef := by
    intro u hu
    rw [← hu, hd]
    simp [Act.put, Array.getD, hsz]
  refine ⟨o, a'.tmps.getD d undef, get_of_nth ho, .inl ⟨hw, fun w hS => ?_⟩, by rw [hput]; exact hk⟩
  have h3 := h w hS (fun a'' w'' => a'' = a' ∧ Below w.heap.size w w'') (fun _ hb => ⟨rfl, hb⟩)
  unfold Oper.wp at h3
  generalize (execOp a.eval o).run P w = r at *
  cases r with
  | ok n w' =>
    cases n <;> simp only [Oper.upon] at h3 <;> simp only [quietU]
    case value u => exact ⟨key u h3.1, h3.2⟩
    case skip => exact ⟨(key undef h3.1).symm, h3.2⟩
    case defer dd =>
      have hl := congrArg (fun a : Act => a.defers.length) h3.1
      rw [hd] at hl
      simp [Act.put, hdf] at hl
    case enter f args =>
      refine Calls.mono h3 fun e w'' he => ?_
      cases e with
      | returned v => exact ⟨by rw [key v he.1], he.2⟩
      | panicked c => exact he.elim
      | outgrown => obtain ⟨_, _, hf⟩ := he; exact hf.elim
    case row r args => exact Rows.mono h3 fun u w'' he => ⟨key u he.1, he.2⟩
  | halt x w' => cases x <;> simp only [Oper.upon, NoQ] at h3

theorem tk_load1 {t : TypeId} {x : Operand} {b n k : Nat} {f : Nat → Value} {v : Value} (ho : nth lops i = some o) (hp : o.op = .load t x) (hw : Region.wanted o (yielded lops.toArray a.tmps) = true)
    (hx : a.eval x = .pointer (some ⟨b, k, none⟩)) (hb : ∀ w, S w → Has w b n f := by intro w hst; first | exact Go.Jal.St.hasb hst (by repeat (first | exact Go.Jal.Pick.head | apply Go.Jal.Pick.tail)) | exact Go.Jal.St.hasOld hst (by assumption) (by simp) | assumption) (hv : f k = v := by (conv => lhs; whnf) <;> rfl) (hi : k < n := by omega) (hs : Scal P t) (ha : a.put o.dst v = a' := by (conv => lhs; simp only [Go.Jal.put_lit, Go.Jal.put_none, Go.Jal.setL]) <;> rfl)
    (hk : wpTake P lops.toArray S N is a') : wpTake P lops.toArray S N (i :: is) a :=
  tk_val ho hw (fun w hS => by
    unfold execOp
    simp only [hp, hx, Sem.run_bind, run_load1 (hb w hS) hi hs, Result.andThen_ok, Sem.run_pure, hv]) ha hk
theorem tk_loadN {t : TypeId} {x : Operand} {b n k m : Nat} {f : Nat → Value} (ho : nth lops i = some o) (hp : o.op = .load t x) (hw : Region.wanted o (yielded lops.toArray a.tmps) = true)
    (hx : a.eval x = .pointer (some ⟨b, k, none⟩)) (hb : ∀ w, S w → Has w b n f := by intro w hst; first | exact Go.Jal.St.hasb hst (by repeat (first | exact Go.Jal.Pick.head | apply Go.Jal.Pick.tail)) | exact Go.Jal.St.hasOld hst (by assumption) (by simp) | assumption) (hs : Agg P t m) (hi : k + m ≤ n := by omega) (ha : a.put o.dst (.agg (row m fun j => f (k + j))) = a' := by (conv => lhs; simp only [Go.Jal.put_lit, Go.Jal.put_none, Go.Jal.setL]) <;> rfl)
    (hk : wpTake P lops.toArray S N is a') : wpTake P lops.toArray S N (i :: is) a :=
  tk_val ho hw (fun w hS => by
    unfold execOp
    simp only [hp, hx, Sem.run_bind, run_loadN (hb w hS) hi hs, Result.andThen_ok, Sem.run_pure]) ha hk
theorem tk_loadAll {t : TypeId} {x : Operand} {b n : Nat} {f : Nat → Value} (ho : nth lops i = some o) (hp : o.op = .load t x) (hw : Region.wanted o (yielded lops.toArray a.tmps) = true)
    (hx : a.eval x = .pointer (some ⟨b, 0, none⟩)) (hb : ∀ w, S w → Has w b n f := by intro w hst; first | exact Go.Jal.St.hasb hst (by repeat (first | exact Go.Jal.Pick.head | apply Go.Jal.Pick.tail)) | exact Go.Jal.St.hasOld hst (by assumption) (by simp) | assumption) (hs : Agg P t n) (ha : a.put o.dst (.agg (row n f)) = a' := by (conv => lhs; simp only [Go.Jal.put_lit, Go.Jal.put_none, Go.Jal.setL]) <;> rfl)
    (hk : wpTake P lops.toArray S N is a') : wpTake P lops.toArray S N (i :: is) a :=
  tk_loadN (k := 0) ho hp hw hx hb hs (by omega) (by rw [show (row n fun j => f (0 + j)) = row n f from row_congr fun j _ => by rw [Nat.zero_add]]; exact ha) hk
/-- A call that hands back one value in every world of the class, and writes nothing that was there. -/
theorem tk_call {f : FuncId} (hf : Plain P f) {xs : List Operand} {ts : Array TypeId} {args : List Value} {v : Value} {R : World → Value → World → Prop} (ho : nth lops i = some o) (hp : o.op = .call { callee := .value (.func f), args := xs.toArray, argTypes := ts })
    (hw : Region.wanted o (yielded lops.toArray a.tmps) = true) (hx : xs.map a.eval = args) (hc : ∀ w, S w → Ret P f args.toArray w (R w)) (hR : ∀ w u w', R w u w' → u = v ∧ Below w.heap.size w w') (ha : a.put o.dst v = a' := by (conv => lhs; simp only [Go.Jal.put_lit, Go.Jal.put_none, Go.Jal.setL]) <;> rfl)
    (hk : wpTake P lops.toArray S N is a') : wpTake P lops.toArray S N (i :: is) a := by
  refine ⟨o, v, get_of_nth ho, .inl ⟨hw, fun w hS => ?_⟩, ha ▸ hk⟩
  obtain ⟨dst, op, ty, pos, after, guard⟩ := o
  simp only at hp
  subst hp
  rw [execOp_call_go]
  simp only [List.map_toArray, hx, Array.append_empty, Array.empty_append, run_callFunc hf]
  refine Calls.mono (hc w hS) ?_
  rintro e w' ⟨u, rfl, hu⟩
  obtain ⟨rfl, hb⟩ := hR w u w' hu
  exact ⟨rfl, hb⟩
end
end Go.Jal
