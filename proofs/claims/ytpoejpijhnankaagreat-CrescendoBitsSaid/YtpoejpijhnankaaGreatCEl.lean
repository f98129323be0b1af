/-
  The concrete evaluator: each operation, evaluated, is what the model's operation does (maps). No condition.
-/
import Derived.Test.YtpoejpijhnankaaGreatCEk
namespace Go.CE
open Go.RowKit

section
variable {P : Program} {w0 : World} {S : Nat → Prop} {φ : Phi} {h h2 : AHeap} {w w2 : World} {nt : Nat} {t : Tr AVal} {a : Act} {v : AVal} {call : Caller}

theorem s_mkmap (H : HRel w0 S φ h w) {ty : TypeId} (e : opMkmap call t h = some (v, h2)) : Done w0 S φ h v h2 ((do pure (Next.value (← Instr.makeMap ty none)) : Sem Next).run P w) := by
  unfold opMkmap at e
  obtain ⟨rfl, rfl⟩ := newB_inv e
  refine ⟨upd φ h.n ⟨w.heap.size, 0, 0⟩, w.alloc (.map #[] 0), .inl (run_val ?_), upd_ext _ _ _, H.new _ _ _ rfl ?_, ?_, by rw [size_new]; omega⟩
  · simp [Instr.makeMap, concA, concS, concC, upd_same]
  · refine ⟨#[], 0, ?_, rfl, fun p hp => by cases hp⟩
    rw [upd_same]; exact heap_alloc_new w _
  · show h.n.toNat < _
    rw [size_new]; omega

/-- A key that can be asked for. -/
theorem checkKey_sound {ty : TypeId} {ks : Nat ⊕ List Nat} (hk : keyT P ty = some ks) {k : SVal} (e : (eqS ks k k).isNone = false) (em : Bool) (n : Nat) :
    (Instr.checkKey em (n + 2) ty (concS φ k)).run P w = .ok () w := by
  obtain ⟨q, hq⟩ : ∃ q, eqS ks k k = some q := by cases hh : eqS ks k k with | none => rw [hh] at e; cases e | some q => exact ⟨q, rfl⟩
  have scalar : ∀ (n : Nat) (ty : TypeId) (kd : Nat) (c : CVal) (q : Bool), kindT P ty = some kd → eqC kd c c = some q → (Instr.checkKey em (n + 1) ty (concC φ c)).run P w = .ok () w := by
    intro n ty kd c q hkd hc
    rcases eqC_inv hc with ⟨rfl, j, m, _, rfl, _, _⟩ | ⟨rfl, m, _, rfl, _, _⟩ | ⟨rfl, m, _, rfl, _, _⟩ <;> rcases kindT_inv hkd with ⟨h0, hu⟩ | ⟨h0, j', hu⟩ | ⟨h0, hu⟩ <;> try omega
    all_goals simp [Instr.checkKey, Sem.run_bind, run_underlying hu, concC]
  unfold keyT at hk
  split at hk
  · rename_i hu
    cases hk
    cases k <;> simp only [eqS] at hq <;> try cases hq
    exact scalar (n + 1) ty 0 _ q (by unfold kindT; rw [hu]) hq
  · rename_i hu
    cases hk
    cases k <;> simp only [eqS] at hq <;> try cases hq
    exact scalar (n + 1) ty 1 _ q (by unfold kindT; rw [hu]) hq
  · rename_i hu
    cases hk
    cases k <;> simp only [eqS] at hq <;> try cases hq
    exact scalar (n + 1) ty 2 _ q (by unfold kindT; rw [hu]) hq
  · rename_i fs hu
    cases hs : P.stoodInHeld ty with
    | true => rw [hs] at hk; cases hk
    | false =>
      rw [hs] at hk
      simp only [cond_false] at hk
      split at hk
      · rename_i ks' hks
        cases hk
        cases k <;> simp only [eqS] at hq <;> try cases hq
        rename_i xs
        have loop : ∀ (fs : List Field) (i : Nat) (ks : List Nat) (q : Bool), kindsF P i fs = some ks → eqCs ks (xs.drop i) (xs.drop i) = some q →
            (forIn fs PUnit.unit (fun f _ => do
              if f.name ≠ "_" then Instr.checkKey em (n + 1) f.type (← Go.part f.type (xs.map (concC φ)).toArray f.offset)
              pure (ForInStep.yield PUnit.unit)) : Sem PUnit).run P w = .ok PUnit.unit w := by
          intro fs
          induction fs with
          | nil => intro i ks q _ _; rfl
          | cons f fs ih =>
            intro i ks q hk e
            simp only [kindsF] at hk
            cases hb : (!(f.name == "_") && Nat.beq f.offset i) with
            | false => rw [hb] at hk; cases hk
            | true =>
              rw [hb] at hk
              simp only [cond_true] at hk
              simp only [Bool.and_eq_true, Bool.not_eq_true'] at hb
              have hoff := beq_true hb.2
              have hname : f.name ≠ "_" := by simpa using hb.1
              split at hk
              · rename_i k ks' hk1 hk2
                cases hk
                cases hx : xs.drop i with
                | nil => rw [hx] at e; cases e
                | cons x xr =>
                  rw [hx] at e
                  simp only [eqCs] at e
                  obtain ⟨gx, dx⟩ := drop_cons hx
                  cases hc : eqC k x x with
                  | none => rw [hc] at e; cases e
                  | some b =>
                    rw [hc] at e
                    have hbt : b = true := by
                      rcases eqC_inv hc with ⟨_, _, m, n, h1, h2, h3⟩ | ⟨_, m, n, h1, h2, h3⟩ | ⟨_, m, n, h1, h2, h3⟩ <;> rw [h1] at h2 <;> cases h2 <;> simp [h3]
                    subst hbt
                    have ih' := ih (i + 1) ks' q hk2 (by rw [dx]; exact e)
                    simp only [List.forIn_cons, Sem.run_bind, hname, ne_eq, not_false_eq_true, if_true]
                    rw [hoff, part_scalar hk1 gx, Result.andThen_ok, scalar n f.type k x true hk1 hc]
                    simpa using ih'
              · cases hk
        have := loop fs.toList 0 ks' q hks (by simpa using hq)
        rw [Instr.checkKey]
        simp only [Sem.run_bind, run_underlying hu, Result.andThen_ok, concS]
        rw [← Array.forIn_toList]
        have this' := congrArg (fun r : Result PUnit => r.andThen fun _ w' => Result.ok () w') this
        simpa using this'
      · cases hk
  · cases hk

/-- Two equal keys have the same bits. -/
theorem sameBits_C {k : Nat} {x y : CVal} (e : eqC k x y = some true) (n : Nat) : Instr.sameBits n (concC φ y) (concC φ x) = true := by
  rcases eqC_inv e with ⟨_, j, m, n', rfl, rfl, hq⟩ | ⟨_, m, n', rfl, rfl, hq⟩ | ⟨_, m, n', rfl, rfl, hq⟩
  · have : m = n' := by simpa using hq.symm
    subst this
    cases n <;> simp [concC, Instr.sameBits]
  · have : m.data.toList = n'.data.toList := by simpa using hq.symm
    have : m = n' := by
      obtain ⟨⟨x⟩⟩ := m; obtain ⟨⟨y⟩⟩ := n'
      simp only at this
      rw [this]
    subst this
    have hm : (m == m) = true := by rw [beq_toListBytes]; simp
    cases n <;> simp [concC, Instr.sameBits, hm]
  · have : m = n' := by simpa using hq.symm
    subst this
    cases n <;> simp [concC, Instr.sameBits]

theorem sameBits_L (n : Nat) : ∀ {ks : List Nat} {xs ys : List CVal}, eqCs ks xs ys = some true → xs.length = ys.length ∧ (((ys.map (concC φ)).zip (xs.map (concC φ))).all fun (x, y) => Instr.sameBits n x y) = true
  | [], xs, ys, e => by cases xs <;> cases ys <;> cases e; exact ⟨rfl, rfl⟩
  | k :: ks, xs, ys, e => by
    cases xs with
    | nil => cases ys <;> cases e
    | cons x xs =>
      cases ys with
      | nil => cases e
      | cons y ys =>
        simp only [eqCs] at e
        cases hc : eqC k x y with
        | none => rw [hc] at e; cases e
        | some b =>
          rw [hc] at e
          cases b
          · cases e
          · have ih := sameBits_L n e
            refine ⟨by simp [ih.1], ?_⟩
            simp only [List.map_cons, List.zip_cons_cons, List.all_cons, Bool.and_eq_true]
            exact ⟨sameBits_C hc n, ih.2⟩

theorem sameBits_S {ks : Nat ⊕ List Nat} {x y : SVal} (e : eqS ks x y = some true) : Instr.sameBits 10000 (concS φ y) (concS φ x) = true := by
  cases ks with
  | inl k =>
    cases x <;> cases y <;> simp only [eqS] at e <;> try cases e
    exact sameBits_C e _
  | inr ks =>
    cases x <;> cases y <;> simp only [eqS] at e <;> try cases e
    have := sameBits_L (φ := φ) 9999 e
    show ((_ : Array Value).size == (_ : Array Value).size && ((_ : List Value).zip _).all _) = true
    simp only [Bool.and_eq_true]
    exact ⟨by simp [this.1], this.2⟩

/-- Entries as the model holds them. -/
def entsOf (φ : Phi) (ents : List MapEntry) (es : List (SVal × SVal)) : Prop := ents.map (fun e => (e.key, e.val)) = es.map (fun p => (concS φ p.1, concS φ p.2))

theorem entsOf_cons {ents : List MapEntry} {p : SVal × SVal} {es : List (SVal × SVal)} (he : entsOf φ ents (p :: es)) : ∃ x r, ents = x :: r ∧ x.key = concS φ p.1 ∧ x.val = concS φ p.2 ∧ entsOf φ r es := by
  cases ents with
  | nil => cases he
  | cons x r =>
    unfold entsOf at he
    simp only [List.map_cons, List.cons.injEq, Prod.mk.injEq] at he
    exact ⟨x, r, rfl, he.1.1, he.1.2, he.2⟩

/-- What is found under a key: nothing; or an entry by its place. -/
theorem findAsking_sound {ty : TypeId} {ks : Nat ⊕ List Nat} (hk : keyT P ty = some ks) {k : SVal} : ∀ {es : List (SVal × SVal)} {ents : List MapEntry} {r : Option SVal} (i : Nat), entsOf φ ents es → findE ks k es = some r →
    (r = none ∧ (Instr.findAsking ty (concS φ k) ents i).run P w = .ok none w ∧ ∀ u, putE ks k u es = some (es ++ [(k, u)])) ∨
    (∃ u j k', r = some u ∧ (Instr.findAsking ty (concS φ k) ents i).run P w = .ok (some (i + j, concS φ u)) w ∧ es[j]? = some (k', u) ∧ eqS ks k k' = some true ∧ ∀ u', putE ks k u' es = some (es.set j (k, u')))
  | [], ents, r, i, he, e => by
    have : ents = [] := by unfold entsOf at he; simpa using he
    subst this
    cases e
    exact .inl ⟨rfl, rfl, fun u => rfl⟩
  | (k', u) :: es, ents, r, i, he, e => by
    obtain ⟨x, rest, rfl, hx, hxv, he'⟩ := entsOf_cons he
    simp only [findE] at e
    have step : ∀ q, eqS ks k k' = some q → (Op.equal ty (concS φ k) x.key).run P w = .ok q w := fun q hq => by rw [hx]; exact equal_sound hk hq 9998
    split at e
    · rename_i hq
      cases e
      refine .inr ⟨u, 0, k', rfl, ?_, rfl, hq, fun u' => by simp [putE, hq]⟩
      simp [Instr.findAsking, step true hq, hxv]
    · rename_i hq
      rcases findAsking_sound hk (i + 1) he' e with ⟨h1, h2', h3⟩ | ⟨u2, j, k2, h1, h2', h3, h4, h5⟩
      · refine .inl ⟨h1, ?_, fun u' => by simp [putE, hq, h3 u', consO]⟩
        simp [Instr.findAsking, step false hq, h2']
      · refine .inr ⟨u2, j + 1, k2, h1, ?_, by simpa using h3, h4, fun u' => by simp [putE, hq, h5 u', consO]⟩
        simp [Instr.findAsking, step false hq, h2']
        omega
    · cases e

theorem findNow_sound {d : TypeDesc} {kd : Nat} (hd : (kd = 0 ∧ d = .bool) ∨ (kd = 1 ∧ ∃ j, d = .int j) ∨ (kd = 2 ∧ d = .string)) {k : CVal} : ∀ {es : List (SVal × SVal)} {ents : List MapEntry} {r : Option SVal} (i : Nat), entsOf φ ents es → findE (.inl kd) (.one k) es = some r →
    (r = none ∧ Instr.findNow d (concC φ k) ents i = some none) ∨ (∃ u j, r = some u ∧ Instr.findNow d (concC φ k) ents i = some (some (i + j, concS φ u)) ∧ (∃ k', es[j]? = some (k', u) ∧ eqS (.inl kd) (.one k) k' = some true))
  | [], ents, r, i, he, e => by
    have : ents = [] := by unfold entsOf at he; simpa using he
    subst this
    cases e
    exact .inl ⟨rfl, rfl⟩
  | (k', u) :: es, ents, r, i, he, e => by
    obtain ⟨x, rest, rfl, hx, hxv, he'⟩ := entsOf_cons he
    simp only [findE] at e
    have step : ∀ q, eqS (.inl kd) (.one k) k' = some q → Instr.sameNow d (concC φ k) x.key = some q := by
      intro q hq
      rw [hx]
      cases k' with
      | agg cs => cases hq
      | one c =>
        simp only [eqS] at hq
        show Instr.sameNow d (concC φ k) (concC φ c) = some q
        rcases eqC_inv hq with ⟨rfl, j, m, n, rfl, rfl, rfl⟩ | ⟨rfl, m, n, rfl, rfl, rfl⟩ | ⟨rfl, m, n, rfl, rfl, rfl⟩ <;> rcases hd with ⟨h0, rfl⟩ | ⟨h0, j', rfl⟩ | ⟨h0, rfl⟩ <;> try omega
        · simp [Instr.sameNow, concC]
        · simp only [Instr.sameNow, concC]; rw [beq_toListBytes, ByteArray.toList_eq, ByteArray.toList_eq]
        · simp [Instr.sameNow, concC]
    split at e
    · rename_i hq
      cases e
      refine .inr ⟨u, 0, rfl, ?_, k', rfl, hq⟩
      simp [Instr.findNow, step true hq, hxv]
    · rename_i hq
      rcases findNow_sound hd (i + 1) he' e with ⟨h1, h2'⟩ | ⟨u2, j, h1, h2', k2, h3, h4⟩
      · exact .inl ⟨h1, by simp [Instr.findNow, step false hq, h2']⟩
      · refine .inr ⟨u2, j + 1, h1, ?_, k2, by simpa using h3, h4⟩
        simp [Instr.findNow, step false hq, h2']
        omega
    · cases e

/-- What the model finds under a key. -/
theorem findKey_sound {ty : TypeId} {ks : Nat ⊕ List Nat} (hk : keyT P ty = some ks) {k : SVal} {es : List (SVal × SVal)} {ents : List MapEntry} {r : Option SVal} (he : entsOf φ ents es) (e : findE ks k es = some r) :
    (r = none ∧ (Instr.findKey ty (concS φ k) ents).run P w = .ok none w ∧ ∀ u, putE ks k u es = some (es ++ [(k, u)])) ∨
    (∃ u j k', r = some u ∧ (Instr.findKey ty (concS φ k) ents).run P w = .ok (some (j, concS φ u)) w ∧ es[j]? = some (k', u) ∧ eqS ks k k' = some true ∧ ∀ u', putE ks k u' es = some (es.set j (k, u'))) := by
  have hask := findAsking_sound (P := P) (w := w) hk 0 he e
  obtain ⟨d, hd⟩ : ∃ d, P.underlying ty = some d := by
    unfold keyT at hk
    cases hu : P.underlying ty with
    | none => rw [hu] at hk; cases hk
    | some d => exact ⟨d, rfl⟩
  -- the quick look agrees with the asking one, where it decides
  have quick : ∀ x, Instr.findNow d (concS φ k) ents 0 = some x → (Instr.findAsking ty (concS φ k) ents 0).run P w = .ok x w := by
    intro x hx
    have agg : ∀ cs ks', k = .agg cs → ks = .inr ks' → (Instr.findAsking ty (concS φ k) ents 0).run P w = .ok x w := by
      intro cs ks' hkc _
      subst hkc
      cases ents with
      | nil => simp only [Instr.findNow] at hx; cases hx; rfl
      | cons y r =>
        have hnone : Instr.sameNow d (concS φ (.agg cs)) y.key = none := by cases d <;> rfl
        simp only [Instr.findNow, hnone] at hx
        cases hx
    have sc : ∀ kd c, k = .one c → ks = .inl kd → ((kd = 0 ∧ d = .bool) ∨ (kd = 1 ∧ ∃ j, d = .int j) ∨ (kd = 2 ∧ d = .string)) → (Instr.findAsking ty (concS φ k) ents 0).run P w = .ok x w := by
      intro kd c hkc hks hdd
      subst hkc; subst hks
      have hx' : Instr.findNow d (concC φ c) ents 0 = some x := hx
      rcases findNow_sound hdd 0 he e with ⟨h1, h2'⟩ | ⟨u, j, h1, h2', k', h3, h4⟩
      · rw [h2'] at hx'; cases hx'
        rcases hask with ⟨_, g, _⟩ | ⟨u, j, k', g, _⟩
        · exact g
        · rw [h1] at g; cases g
      · rw [h2'] at hx'; cases hx'
        rcases hask with ⟨g, _, _⟩ | ⟨u2, j2, k2, g1, g2, g3, g4, g5⟩
        · rw [h1] at g; cases g
        · rw [h1] at g1; cases g1
          rw [g2]
          -- both are the first place with the key
          have first : ∀ (es : List (SVal × SVal)) (i : Nat) (ents : List MapEntry), entsOf φ ents es → ∀ a b, Instr.findNow d (concC φ c) ents i = some (some a) → (Instr.findAsking ty (concC φ c) ents i).run P w = .ok (some b) w →
              (∃ r, findE (.inl kd) (.one c) es = some r) → a.1 = b.1 := by
            intro es
            induction es with
            | nil => intro i ents he a b ha hb _; have : ents = [] := by unfold entsOf at he; simpa using he
                     subst this; cases ha
            | cons p es ih =>
              intro i ents he a b ha hb ⟨r, hr⟩
              obtain ⟨y, rest, rfl, hy, hyv, he'⟩ := entsOf_cons he
              obtain ⟨k9, u9⟩ := p
              simp only [findE] at hr
              have st1 : ∀ q, eqS (.inl kd) (.one c) k9 = some q → (Op.equal ty (concC φ c) y.key).run P w = .ok q w := fun q hq => by rw [hy]; exact equal_sound hk hq 9998
              have st2 : ∀ q, eqS (.inl kd) (.one c) k9 = some q → Instr.sameNow d (concC φ c) y.key = some q := by
                intro q hq
                rw [hy]
                cases k9 with
                | agg cs => cases hq
                | one c9 =>
                  simp only [eqS] at hq
                  show Instr.sameNow d (concC φ c) (concC φ c9) = some q
                  rcases eqC_inv hq with ⟨rfl, j, m, n, rfl, rfl, rfl⟩ | ⟨rfl, m, n, rfl, rfl, rfl⟩ | ⟨rfl, m, n, rfl, rfl, rfl⟩ <;> rcases hdd with ⟨h0, rfl⟩ | ⟨h0, j', rfl⟩ | ⟨h0, rfl⟩ <;> try omega
                  · simp [Instr.sameNow, concC]
                  · simp only [Instr.sameNow, concC]; rw [beq_toListBytes, ByteArray.toList_eq, ByteArray.toList_eq]
                  · simp [Instr.sameNow, concC]
              cases hq : eqS (.inl kd) (.one c) k9 with
              | none => rw [hq] at hr; cases hr
              | some q =>
                rw [hq] at hr
                simp only [Instr.findNow, st2 q hq] at ha
                simp only [Instr.findAsking, Sem.run_bind, st1 q hq, Result.andThen_ok] at hb
                cases q
                · simp only [Bool.false_eq_true, if_false] at ha hb
                  exact ih (i + 1) rest he' a b ha hb ⟨r, hr⟩
                · simp only [if_true] at ha hb
                  cases ha; cases hb; rfl
          have := first es 0 ents he _ _ h2' g2 ⟨_, e⟩
          simp only [Nat.zero_add] at this ⊢
          rw [this]
    unfold keyT at hk
    rw [hd] at hk
    cases d <;> try cases hk
    case bool => cases k with
      | one c => exact sc 0 c rfl rfl (.inl ⟨rfl, rfl⟩)
      | agg cs =>
        cases ents with
        | nil => simp only [Instr.findNow] at hx; cases hx; rfl
        | cons y r => simp only [Instr.findNow, concS, Instr.sameNow] at hx; cases hx
    case int j => cases k with
      | one c => exact sc 1 c rfl rfl (.inr (.inl ⟨rfl, j, rfl⟩))
      | agg cs =>
        cases ents with
        | nil => simp only [Instr.findNow] at hx; cases hx; rfl
        | cons y r => simp only [Instr.findNow, concS, Instr.sameNow] at hx; cases hx
    case string => cases k with
      | one c => exact sc 2 c rfl rfl (.inr (.inr ⟨rfl, rfl⟩))
      | agg cs =>
        cases ents with
        | nil => simp only [Instr.findNow] at hx; cases hx; rfl
        | cons y r => simp only [Instr.findNow, concS, Instr.sameNow] at hx; cases hx
    case struct fs =>
      cases ents with
      | nil => simp only [Instr.findNow] at hx; cases hx; rfl
      | cons y r =>
        have hnone : Instr.sameNow (.struct fs) (concS φ k) y.key = none := rfl
        simp only [Instr.findNow, hnone] at hx
        cases hx
  have hfk : (Instr.findKey ty (concS φ k) ents).run P w = (Instr.findAsking ty (concS φ k) ents 0).run P w := by
    simp only [Instr.findKey, Sem.run_bind, run_underlying hd, Result.andThen_ok]
    cases hn : Instr.findNow d (concS φ k) ents 0 with
    | none => rfl
    | some x => rw [quick x hn]; rfl
  rw [hfk]
  simpa using hask

theorem s_lookup (H : HRel w0 S φ h w) {ty kt el : TypeId} (hu : P.underlying ty = some (.map kt el)) {ks : Nat ⊕ List Nat} (hk : keyT P kt = some ks) {z : SVal} (hz : zeroT P el = some z) {ok : Bool} {m k : Opd} {vm vk : Value}
    (hm : vm = concA φ (m t)) (hkk : vk = concA φ (k t)) (e : opLookup ks z ok m k call t h = some (v, h2)) :
    Done w0 S φ h v h2 ((do pure (Next.value (← Instr.lookup ty vm vk ok)) : Sem Next).run P w) := by
  unfold opLookup at e
  split at e
  · rename_i es key hes hkey
    cases hi : (eqS ks key key).isNone with
    | true => rw [hi] at e; cases e
    | false =>
      rw [hi] at e
      simp only [cond_false] at e
      split at e
      · rename_i r hr
        cases e
        obtain ⟨iz, zv, hiz, hzv, hcz, hwz⟩ := zeroT_inv (φ := φ) hz
        have hzr : (zeroValue el).run P w = .ok (concS φ z) w := by rw [hcz]; simp [zeroValue, typeInfo, hiz, hzv]
        obtain ⟨ents, hents, hrun, hwf⟩ : ∃ ents : Array MapEntry, entsOf φ ents.toList es ∧ ((vm = .map none ∧ ents = #[]) ∨ ∃ r clock, vm = .map (some r) ∧ w.heap[r]? = some (.map ents clock)) ∧
            ∀ p ∈ es, wfS φ h.n.toNat p.1 ∧ wfS φ h.n.toNat p.2 := by
          unfold mapOf at hes
          split at hes
          · rename_i hme
            cases hes
            exact ⟨#[], rfl, .inl ⟨by rw [hm, hme]; rfl, rfl⟩, fun p hp => by cases hp⟩
          · rename_i b hme
            split at hes
            · rename_i es' hb
              cases hes
              obtain ⟨ents, clock, h1, h2', h3⟩ := H.obj b _ hb
              exact ⟨ents, h2', .inr ⟨_, clock, by rw [hm, hme]; rfl, h1⟩, h3⟩
            · cases hes
          · cases hes
        have hck := checkKey_sound (P := P) (w := w) (φ := φ) hk hi ents.isEmpty 9998
        have hkv : vk = concS φ key := by rw [hkk, hkey]; rfl
        rcases findKey_sound (P := P) (w := w) hk hents hr with ⟨h1, h2', _⟩ | ⟨u, j, k', h1, h2', h3, _, _⟩
        · subst h1
          refine Done.same H ?_ (run_val ?_)
          · cases ok
            · exact wfS_mono (Nat.zero_le _) (cVal_conc φ (v := zv) (by
                have := hz; unfold zeroT at this; rw [hiz] at this; simp only [hzv] at this; exact this)).2
            · intro x hx
              simp only [cond_true, Option.getD_none, List.mem_cons, List.not_mem_nil, or_false] at hx
              rcases hx with rfl | rfl
              · exact wfS_mono (Nat.zero_le _) (cVal_conc φ (v := zv) (by
                  have := hz; unfold zeroT at this; rw [hiz] at this; simp only [hzv] at this; exact this)).2
              · exact trivial
          · rw [hkv]
            rcases hrun with ⟨rfl, rfl⟩ | ⟨r, clock, rfl, hg⟩
            · have hck' : (Instr.checkKey true 10000 kt (concS φ key)).run P w = .ok () w := hck
              have h2'' : (Instr.findKey kt (concS φ key) []).run P w = .ok none w := h2'
              cases ok <;> simp [Instr.lookup, run_underlying hu, hck', h2'', hzr, concA_tup, concA_s, concS_one, concC]
            · cases ok <;> simp [Instr.lookup, run_underlying hu, hck, h2', hzr, concA_tup, concA_s, concS_one, concC, getObj, Sem.run, hg]
        · subst h1
          have hw2 := (hwf (k', u) (List.mem_of_getElem? h3)).2
          refine Done.same H ?_ (run_val ?_)
          · cases ok
            · exact hw2
            · intro x hx
              simp only [cond_true, Option.getD_some, List.mem_cons, List.not_mem_nil, or_false] at hx
              rcases hx with rfl | rfl
              · exact hw2
              · exact trivial
          · rw [hkv]
            rcases hrun with ⟨rfl, rfl⟩ | ⟨r, clock, rfl, hg⟩
            · have : es = [] := by unfold entsOf at hents; simpa using hents.symm
              rw [this] at h3
              cases h3
            · cases ok <;> simp [Instr.lookup, run_underlying hu, hck, h2', concA_tup, concA_s, concS_one, concC, getObj, Sem.run, hg]
      · cases e
  · cases e

theorem s_mupd (H : HRel w0 S φ h w) {ty kt el : TypeId} (hu : P.underlying ty = some (.map kt el)) {ks : Nat ⊕ List Nat} (hk : keyT P kt = some ks) {m k y : Opd} {vm vk vy : Value}
    (hm : vm = concA φ (m t)) (hkk : vk = concA φ (k t) ∧ wfA φ h.n.toNat (k t)) (hyy : vy = concA φ (y t) ∧ wfA φ h.n.toNat (y t)) (e : opMupd ks m k y call t h = some (v, h2)) :
    Done w0 S φ h v h2 ((do Instr.mapUpdate ty vm vk vy; pure Next.skip : Sem Next).run P w) := by
  unfold opMupd at e
  split at e
  · rename_i b key val hme hke hve
    cases hi : (eqS ks key key).isNone with
    | true => rw [hi] at e; cases e
    | false =>
      rw [hi] at e
      simp only [cond_false] at e
      split at e
      · rename_i es hb
        split at e
        · rename_i es' hp
          cases e
          obtain ⟨ents, clock, h1, h2', h3⟩ := H.obj b _ hb
          have hents : entsOf φ ents.toList es := h2'
          have hvm : vm = .map (some (φ b).blk) := by rw [hm, hme]; rfl
          have hvk : vk = concS φ key := by rw [hkk.1, hke]; rfl
          have hvy : vy = concS φ val := by rw [hyy.1, hve]; rfl
          have hwk : wfS φ h.n.toNat key := by have := hkk.2; rw [hke] at this; exact this
          have hwy : wfS φ h.n.toNat val := by have := hyy.2; rw [hve] at this; exact this
          have hck := checkKey_sound (P := P) (w := w) (φ := φ) hk hi false 9998
          -- behind the write
          have fin : ∀ (ents' : Array MapEntry) (clock' : Nat), entsOf φ ents'.toList es' → (∀ p ∈ es', wfS φ h.n.toNat p.1 ∧ wfS φ h.n.toNat p.2) →
              (Instr.mapUpdate ty vm vk vy).run P w = .ok () { w with heap := w.heap.setIfInBounds (φ b).blk (.map ents' clock') } →
              Done w0 S φ h aundef (h.put b (.map es')) ((do Instr.mapUpdate ty vm vk vy; pure Next.skip : Sem Next).run P w) := by
            intro ents' clock' he' hw' hrun
            have hlt : (φ b).blk < w.heap.size := (Array.getElem?_eq_some_iff.1 h1).1
            refine ⟨φ, _, .inr ⟨run_skip hrun, rfl⟩, Ext.refl _ _, H.put hb trivial (fun k hne => ?_) (by simp) rfl rfl rfl ⟨ents', clock', ?_, he', hw'⟩, (fun _ hv => by cases hv), Nat.le_refl _⟩
            · show (w.heap.setIfInBounds (φ b).blk _)[k]? = _
              rw [Array.getElem?_setIfInBounds, if_neg (fun e => hne e.symm)]
            · show (w.heap.setIfInBounds (φ b).blk _)[(φ b).blk]? = _
              rw [Array.getElem?_setIfInBounds, if_pos rfl, if_pos hlt]
          -- is the key there?
          have hfe : ∃ r, findE ks key es = some r := by
            have : ∀ (es es' : List (SVal × SVal)), putE ks key val es = some es' → ∃ r, findE ks key es = some r := by
              intro es
              induction es with
              | nil => intro _ _; exact ⟨none, rfl⟩
              | cons p es ih =>
                intro es' hp
                obtain ⟨k', v'⟩ := p
                simp only [putE] at hp
                simp only [findE]
                split at hp
                · exact ⟨_, rfl⟩
                · cases hq : putE ks key val es with
                  | none => rw [hq] at hp; cases hp
                  | some r => exact ih r hq
                · cases hp
            exact this es es' hp
          obtain ⟨r, hr⟩ := hfe
          rcases findKey_sound (P := P) (w := w) hk hents hr with ⟨_, g2, g3⟩ | ⟨u, j, k', _, g2, g3, g4, g5⟩
          · rw [g3 val] at hp
            cases hp
            refine fin (ents.push { key := vk, val := vy, born := clock }) (clock + 1) ?_ ?_ ?_
            · unfold entsOf at hents ⊢
              simp [hents, hvk, hvy]
            · intro p hp
              rcases List.mem_append.1 hp with hp | hp
              · exact h3 p hp
              · simp only [List.mem_singleton] at hp; subst hp; exact ⟨hwk, hwy⟩
            · rw [hvm, hvk]
              simp [Instr.mapUpdate, run_underlying hu, getObj, setObj, Sem.run, h1, hck, g2]
          · rw [g5 val] at hp
            cases hp
            have hjl : j < es.length := (List.getElem?_eq_some_iff.1 g3).1
            have hlen : ents.size = es.length := by have := congrArg List.length h2'; simpa using this
            have hkey : (ents[j]?).map (·.key) = some (concS φ k') := by
              have := congrArg (fun l => l[j]?) h2'
              simp only [List.getElem?_map, g3, Option.map_some] at this
              cases hx : ents.toList[j]? with
              | none => rw [hx] at this; cases this
              | some x =>
                rw [hx] at this
                simp only [Option.map_some, Option.some.injEq, Prod.mk.injEq] at this
                rw [← Array.getElem?_toList, hx, Option.map_some, this.1]
            refine fin (ents.modify j fun x => { x with key := vk, val := vy }) clock ?_ ?_ ?_
            · unfold entsOf at hents ⊢
              apply List.ext_getElem?
              intro q
              have hq := congrArg (fun l => l[q]?) hents
              simp only [List.getElem?_map, Array.getElem?_toList, Array.getElem?_modify, List.getElem?_set] at hq ⊢
              by_cases hjq : j = q
              · subst hjq
                simp only [if_true, hjl]
                have : j < ents.size := by omega
                simp [this, hvk, hvy]
              · simp only [hjq, if_false]
                exact hq
            · intro p hp
              rcases List.mem_or_eq_of_mem_set hp with hp | hp
              · exact h3 p hp
              · subst hp; exact ⟨hwk, hwy⟩
            · have hs : Instr.sameBits 10000 (concS φ k') (concS φ key) = true := sameBits_S g4
              rw [hvm, hvk]
              simp [Instr.mapUpdate, run_underlying hu, getObj, setObj, Sem.run, h1, hck, g2, hkey, Instr.keyThatStays, hs]
        · cases e
      · cases e
  · cases e

end
end Go.CE
