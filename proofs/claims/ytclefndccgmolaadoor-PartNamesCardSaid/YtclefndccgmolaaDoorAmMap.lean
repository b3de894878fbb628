/-
  MAPS OF THE CALL's OWN WHOSE KEYS ARE KNOWN. A general base for proofs: no program is named here.
-/
import Derived.Test.YtclefndccgmolaaDoorAmOps13
import Derived.MapKept
import Derived.RangeFuncRecord
namespace Go.Am
open Go Go.RowKit

section
variable {P : Program} {w0 w : World} {N0 : Nat} {I : LI} {S S' : AS} {a : Act} {v : AV}

theorem bytes_ext {a b : ByteArray} (h : a.data.toList = b.data.toList) : a = b := by
  obtain ⟨⟨a⟩⟩ := a
  obtain ⟨⟨b⟩⟩ := b
  simp at h
  subst h; rfl

theorem bytes_beq (a b : ByteArray) : (a == b) = (a.data.toList == b.data.toList) := by
  rw [Bool.eq_iff_iff, MapKept.bytes_beq, beq_iff_eq]
  exact ⟨fun e => by rw [e], bytes_ext⟩

theorem zeroV_rel {t : TypeId} {z : AV} (hz : zeroV P t = some z) {ro : Nat → Prop} {L : Option LI} : ∃ inf u, P.info? t = some inf ∧ inf.zero = some u ∧ VRel w ro L z u := by
  unfold zeroV at hz
  split at hz <;> try cases hz
  rename_i inf hi
  split at hz <;> try cases hz
  rename_i u hu
  exact ⟨inf, u, hi, hu, ofConst_rel 4 u z hz⟩

theorem crel2' {w : World} {ro : Nat → Prop} {L : Option LI} {a b : AV} {u v : Value} (h : VRel w ro L a u) (h2 : VRel w ro L b v) : CRel w ro L [a, b] #[u, v] := by
  refine ⟨rfl, fun i x hx => ?_⟩
  match i with
  | 0 => simp at hx; subst hx; exact h
  | 1 => simp at hx; subst hx; exact h2
  | i + 2 => simp at hx

theorem rn_checkKey {kt : TypeId} {kd : EqK} (hk : eqkOf P kt = some kd) (e : Bool) (n : Nat) (u : Value) (w : World) : (Instr.checkKey e (n + 1) kt u).run P w = .ok () w := by
  unfold eqkOf at hk
  split at hk <;> try cases hk
  all_goals (rename_i hu; simp only [Instr.checkKey, Sem.run_bind, rn_underlying hu, Result.andThen_ok]; rfl)

theorem sameNow_of {kt : TypeId} {kd : EqK} {d : TypeDesc} (hk : eqkOf P kt = some kd) (hd : P.underlying kt = some d) {x y : AV} {u u' : Value} {L L' : Option LI} {ro ro' : Nat → Prop} (hx : VRel w ro L x u) (hy : VRel w ro' L' y u') {b : Bool} (h : eqK kd x y = some b) : Instr.sameNow d u u' = some b := by
  unfold eqkOf at hk
  rw [hd] at hk
  split at hk <;> try cases hk
  · rename_i k0 hd0
    injection hd0 with hd0; subst hd0
    unfold eqK at h
    split at h <;> try (simp at *; done)
    rename_i k n k' n'
    cases hx; cases hy
    split at h
    · rename_i hkk; simp only [Option.some.injEq] at h; simp only [Instr.sameNow, if_pos hkk, h]
    · cases h
  · rename_i hd0
    injection hd0 with hd0; subst hd0
    unfold eqK at h
    split at h <;> try (simp at *; done)
    cases hx; cases hy
    simp only [Option.some.injEq] at h; simp only [Instr.sameNow, h]
  · rename_i hd0
    injection hd0 with hd0; subst hd0
    unfold eqK at h
    split at h <;> try (simp at *; done)
    rename_i s t
    cases hx; cases hy
    rename_i t1 t2
    simp only [Option.some.injEq] at h
    simp only [Instr.sameNow, ← h, Option.some.injEq]
    exact bytes_beq t1 t2

/-- The list of entries, and what is known of it. -/
def ERel (w : World) (ro : Nat → Prop) (L : Option LI) (es : List (AV × AV)) (l : List MapEntry) : Prop :=
  l.length = es.length ∧ ∀ (i : Nat) (k v : AV), es[i]? = some (k, v) → ∃ e : MapEntry, l[i]? = some e ∧ VRel w ro L k e.key ∧ VRel w ro L v e.val

theorem ERel.tail {w : World} {ro : Nat → Prop} {L : Option LI} {x : AV × AV} {es : List (AV × AV)} {e : MapEntry} {l : List MapEntry} (h : ERel w ro L (x :: es) (e :: l)) : ERel w ro L es l :=
  ⟨by have := h.1; simpa using this, fun i k v hi => by obtain ⟨e', h1, h2⟩ := h.2 (i + 1) k v (by simpa using hi); exact ⟨e', by simpa using h1, h2⟩⟩

theorem ERel.head {w : World} {ro : Nat → Prop} {L : Option LI} {k v : AV} {es : List (AV × AV)} {e : MapEntry} {l : List MapEntry} (h : ERel w ro L ((k, v) :: es) (e :: l)) : VRel w ro L k e.key ∧ VRel w ro L v e.val := by
  obtain ⟨e', h1, h2⟩ := h.2 0 k v rfl
  simp at h1; subst h1; exact h2

theorem get_entry {kt : TypeId} {kd : EqK} {d : TypeDesc} (hk : eqkOf P kt = some kd) (hd : P.underlying kt = some d) {L : Option LI} {ro : Nat → Prop} {x : AV} {u : Value} (hx : VRel w ro L x u) :
    ∀ {es : List (AV × AV)} {l : List MapEntry} (j : Nat) {r : Option AV}, ERel w ro L es l → getEntry kd x es = some r →
      (∃ i val y, Instr.findNow d u l j = some (some (i, val)) ∧ r = some y ∧ VRel w ro L y val) ∨ (Instr.findNow d u l j = some none ∧ r = none)
  | [], [], j, r, _, h => by
    simp only [getEntry, Option.some.injEq] at h; subst h
    exact .inr ⟨rfl, rfl⟩
  | (k, v) :: es, e :: l, j, r, hr, h => by
    obtain ⟨h1, h2⟩ := hr.head
    simp only [getEntry] at h
    split at h
    · rename_i hb
      simp only [Option.some.injEq] at h; subst h
      have := sameNow_of (P := P) hk hd hx h1 hb
      exact .inl ⟨j, e.val, v, by simp only [Instr.findNow, this], rfl, h2⟩
    · rename_i hb
      have := sameNow_of (P := P) hk hd hx h1 hb
      simp only [Instr.findNow, this]
      exact get_entry hk hd hx (j + 1) hr.tail h
    · cases h
  | [], _ :: _, _, _, hr, _ => by have := hr.1; simp at this
  | _ :: _, [], _, _, hr, _ => by have := hr.1; simp at this

/-- What an own map's block holds. -/
theorem map_at (h : Rel w0 N0 I S a w) {id st : Nat} {es : List (AV × AV)} (hl : look id S.heap = some (st, .map es)) {u : Value} (hm : VRel w I.ro (some I) (.mapv id st) u) :
    ∃ b base n l q, u = .map (some b) ∧ I.loc id st = some (.at b base n) ∧ w.heap[b]? = some (.map l q) ∧ ERel w I.ro (some I) es l.toList := by
  obtain ⟨_, lc, hlc, hol⟩ := h.hrel.heap _ _ _ hl
  cases lc with
  | void => exact hol.elim
  | «at» b base n =>
    obtain ⟨l, q, h1, h2, h3⟩ := hol
    cases hm with
    | mapv hk hh =>
      obtain ⟨J, hJ, _, hu⟩ := hh
      injection hJ with hJ; subst hJ
      exact ⟨b, base, n, l, q, hu b base n hlc, hlc, h1, by simpa using h2, fun i k v hi => by obtain ⟨e, e1, e2⟩ := h3 i k v hi; exact ⟨e, by simpa using e1, e2⟩⟩

theorem s_mapget (h : Rel w0 N0 I S a w) {t kt et : TypeId} {kd : EqK} {z : AV} {ok : Bool} (ht : P.underlying t = some (.map kt et)) (hk : eqkOf P kt = some kd) (hz : zeroV P et = some z)
    {id st : Nat} {es : List (AV × AV)} (hl : look id S.heap = some (st, .map es)) {mu ku : Value} (hm : VRel w I.ro (some I) (.mapv id st) mu) {kv : AV} (hkv : VRel w I.ro (some I) kv ku) {r : Option AV} (hr : getEntry kd kv es = some r) :
    ∃ u, (Instr.lookup t mu ku ok).run P w = .ok u w ∧ VRel w I.ro (some I) (gotEntry ok z r) u := by
  obtain ⟨b, base, n, l, q, rfl, _, hb, hE⟩ := map_at h hl hm
  obtain ⟨d, hd⟩ : ∃ d, P.underlying kt = some d := by
    unfold eqkOf at hk
    cases hu : P.underlying kt with
    | none => rw [hu] at hk; cases hk
    | some d => exact ⟨d, rfl⟩
  obtain ⟨inf, zu, hi, hzz, hzr⟩ := zeroV_rel (w := w) (ro := I.ro) (L := some I) hz
  rcases get_entry (P := P) hk hd hkv 0 hE hr with ⟨i, val, y, h1, rfl, h2⟩ | ⟨h1, rfl⟩
  · refine ⟨if ok then .tuple #[val, .bool true] else val, ?_, ?_⟩
    · unfold Instr.lookup
      simp only [Sem.run_bind, rn_underlying ht, Result.andThen_ok, MapKept.run_getObj_map hb, Sem.run_pure, rn_checkKey hk _ 9999, Instr.findKey, rn_underlying hd, h1]
    · cases ok with
      | false => exact h2
      | true => exact .tup rfl (crel2' h2 .bool).2
  · refine ⟨if ok then .tuple #[zu, .bool false] else zu, ?_, ?_⟩
    · unfold Instr.lookup
      simp only [Sem.run_bind, rn_underlying ht, Result.andThen_ok, MapKept.run_getObj_map hb, Sem.run_pure, rn_checkKey hk _ 9999, Instr.findKey, rn_underlying hd, h1, zeroValue, typeInfo, run_program, hi, hzz]
    · cases ok with
      | false => exact hzr
      | true => exact .tup rfl (crel2' hzr .bool).2

theorem set_entry {kt : TypeId} {kd : EqK} {d : TypeDesc} (hk : eqkOf P kt = some kd) (hd : P.underlying kt = some d) {L : Option LI} {ro : Nat → Prop} {x y : AV} {u uv : Value} (hx : VRel w ro L x u) (hy : VRel w ro L y uv) :
    ∀ {es : List (AV × AV)} {l : List MapEntry} (j : Nat) {es' : List (AV × AV)}, ERel w ro L es l → setEntry kd x y es = some es' →
      (∃ (i : Nat) (val : Value) (e : MapEntry), Instr.findNow d u l j = some (some (j + i, val)) ∧ l[i]? = some e ∧ Instr.sameNow d u e.key = some true ∧ ERel w ro L es' (l.set i { e with key := u, val := uv })) ∨
      (Instr.findNow d u l j = some none ∧ ∀ born, ERel w ro L es' (l ++ [{ key := u, val := uv, born := born }]))
  | [], [], j, es', _, h => by
    simp only [setEntry, Option.some.injEq] at h; subst h
    refine .inr ⟨rfl, fun born => ⟨rfl, fun i k v hi => ?_⟩⟩
    match i with
    | 0 => simp at hi; obtain ⟨rfl, rfl⟩ := hi; exact ⟨_, rfl, hx, hy⟩
    | i + 1 => simp at hi
  | (k, v) :: es, e :: l, j, es', hr, h => by
    obtain ⟨h1, h2⟩ := hr.head
    simp only [setEntry] at h
    split at h
    · rename_i hb
      simp only [Option.some.injEq] at h; subst h
      have hs := sameNow_of (P := P) hk hd hx h1 hb
      refine .inl ⟨0, e.val, e, by simp only [Instr.findNow, hs]; rfl, rfl, hs, by have := hr.1; simpa using this, fun i k' v' hi => ?_⟩
      match i with
      | 0 => simp at hi; obtain ⟨rfl, rfl⟩ := hi; exact ⟨_, rfl, hx, hy⟩
      | i + 1 => obtain ⟨e', e1, e2⟩ := hr.tail.2 i k' v' (by simpa using hi); exact ⟨e', by simpa using e1, e2⟩
    · rename_i hb
      have hs := sameNow_of (P := P) hk hd hx h1 hb
      simp only [Option.map_eq_some_iff] at h
      obtain ⟨es1, h3, rfl⟩ := h
      have cons : ∀ {l' : List MapEntry}, ERel w ro L es1 l' → ERel w ro L ((k, v) :: es1) (e :: l') := by
        intro l' h'
        refine ⟨by simp [h'.1], fun i k' v' hi => ?_⟩
        match i with
        | 0 => simp at hi; obtain ⟨rfl, rfl⟩ := hi; exact ⟨e, rfl, h1, h2⟩
        | i + 1 => obtain ⟨e', e1, e2⟩ := h'.2 i k' v' (by simpa using hi); exact ⟨e', by simpa using e1, e2⟩
      rcases set_entry hk hd hx hy (j + 1) hr.tail h3 with ⟨i, val, e', a1, a2, a3, a4⟩ | ⟨a1, a2⟩
      · exact .inl ⟨i + 1, val, e', by simp only [Instr.findNow, hs, a1]; congr 3; omega, by simpa using a2, a3, by simpa using cons a4⟩
      · exact .inr ⟨by simp only [Instr.findNow, hs, a1], fun born => by simpa using cons (a2 born)⟩
    · cases h
  | [], _ :: _, _, _, hr, _ => by have := hr.1; simp at this
  | _ :: _, [], _, _, hr, _ => by have := hr.1; simp at this

theorem same_bits {kt : TypeId} {kd : EqK} {d : TypeDesc} (hk : eqkOf P kt = some kd) (hd : P.underlying kt = some d) {u u' : Value} (h : Instr.sameNow d u u' = some true) : Instr.sameBits 10000 u' u = true := by
  unfold eqkOf at hk
  rw [hd] at hk
  show Instr.sameBits (9999 + 1) u' u = true
  split at hk <;> try cases hk
  all_goals
    rename_i hd0
    injection hd0 with hd0; subst hd0
    unfold Instr.sameNow at h
    split at h <;> try (simp at *; done)
  · split at h
    · rename_i hkk; subst hkk; simp at h; subst h; simp [Instr.sameBits]
    · cases h
  · simp at h; subst h; simp [Instr.sameBits]
  · simp only [Option.some.injEq] at h
    obtain rfl := (MapKept.bytes_beq _ _).1 h
    simp only [Instr.sameBits]
    exact (MapKept.bytes_beq _ _).2 rfl

theorem s_mapset (h : Rel w0 N0 I S a w) {t kt et : TypeId} {kd : EqK} (ht : P.underlying t = some (.map kt et)) (hk : eqkOf P kt = some kd) {m k y : AV} {mu ku yu : Value}
    (hm : VRel w I.ro (some I) m mu) (hkv : VRel w I.ro (some I) k ku) (hy : VRel w I.ro (some I) y yu) (hr : S.mapset kd m k y = some S') :
    ∃ w' I', (Instr.mapUpdate t mu ku yu).run P w = .ok () w' ∧ Rel w0 N0 I' S' a w' ∧ Evo I w I' w' := by
  unfold AS.mapset at hr
  split at hr <;> try cases hr
  rename_i id st
  split at hr <;> try cases hr
  rename_i st' es hl
  split at hr <;> try cases hr
  rename_i hst; subst hst
  simp only [Option.map_eq_some_iff] at hr
  obtain ⟨es', hes, rfl⟩ := hr
  obtain ⟨b, base, n, l, q, rfl, hloc, hb, hE⟩ := map_at h hl hm
  obtain ⟨d, hd⟩ : ∃ d, P.underlying kt = some d := by
    unfold eqkOf at hk
    cases hu : P.underlying kt with
    | none => rw [hu] at hk; cases hk
    | some d => exact ⟨d, rfl⟩
  have hN := h.hrel.fresh _ _ _ _ _ hloc
  have hbs : b < w.heap.size := (Array.getElem?_eq_some_iff.1 hb).1
  have fin : ∀ (l' : Array MapEntry) (q' : Nat), ERel w I.ro (some I) es' l'.toList → (Instr.mapUpdate t (.map (some b)) ku yu).run P w = .ok () (w.putObj b (.map l' q')) →
      ∃ w' I', (Instr.mapUpdate t (.map (some b)) ku yu).run P w = .ok () w' ∧ Rel w0 N0 I' { S with heap := putl id (st', .map es') S.heap } a w' ∧ Evo I w I' w' := by
    intro l' q' hE' hrun
    obtain ⟨k1, k2⟩ := h.hrel.write (w' := w.putObj b (.map l' q')) (o' := .map es') ⟨rfl, rfl, rfl, by simp, fun k hk => World.putObj_heap_other (by omega)⟩ hloc hl (fun b' hb' => World.putObj_heap_other hb')
      (fun ev => ⟨l', q', World.putObj_heap_same hbs, by have := hE'.1; simpa using this, fun i k v hi => by obtain ⟨e, e1, e2, e3⟩ := hE'.2 i k v hi; exact ⟨e, by simpa using e1, e2.evo ev, e3.evo ev⟩⟩)
    exact ⟨_, I, hrun, ⟨h.clk, h.tmps.evo k2, k1, h.marks.write fun s e => by rw [hl] at e; cases e⟩, k2⟩
  rcases set_entry (P := P) hk hd hkv hy 0 hE hes with ⟨i, val, e, h1, h2, h3, h4⟩ | ⟨h1, h2⟩
  · refine fin (l.modify i fun e => { e with key := ku, val := yu }) q ?_ ?_
    · have hi : i < l.size := by have := (List.getElem?_eq_some_iff.1 h2).1; simpa using this
      have he : l.toList[i]? = some e := h2
      have : (l.modify i fun e => { e with key := ku, val := yu }).toList = l.toList.set i { e with key := ku, val := yu } := by
        rw [Array.toList_modify]
        apply List.ext_getElem?
        intro j
        rw [List.getElem?_modify, List.getElem?_set]
        by_cases hj : i = j
        · subst hj; have e3 : l[i] = e := by simpa [hi] using he
          simp [hi, e3]
        · simp [hj]
      rw [this]; exact h4
    · unfold Instr.mapUpdate
      have hkey : ((l[i]?).map (·.key)).getD ku = e.key := by
        have : l[i]? = some e := by simpa using h2
        rw [this]; rfl
      simp only [Sem.run_bind, rn_underlying ht, Result.andThen_ok, MapKept.run_getObj_map hb, rn_checkKey hk _ 9999, Instr.findKey, rn_underlying hd, h1, Sem.run_pure, Nat.zero_add, hkey, Instr.keyThatStays, same_bits (P := P) hk hd h3, if_true, MapKept.run_setObj_map _ hb]
      rfl
  · refine fin (l.push { key := ku, val := yu, born := q }) (q + 1) (by simpa using h2 q) ?_
    unfold Instr.mapUpdate
    simp only [Sem.run_bind, rn_underlying ht, Result.andThen_ok, MapKept.run_getObj_map hb, rn_checkKey hk _ 9999, Instr.findKey, rn_underlying hd, h1, Sem.run_pure, MapKept.run_setObj_map _ hb]
    rfl

theorem s_mkmap (h : Rel w0 N0 I S a w) (t : TypeId) :
    ∃ u w' I', (Instr.makeMap t none).run P w = .ok u w' ∧ VRel w' I'.ro (some I') (.mapv S.next S.clk) u ∧ Rel w0 N0 I' (S.new (.map [])) a w' ∧ Evo I w I' w' := by
  have hN : N0 ≤ w.heap.size := Nat.le_trans h.hrel.base h.hrel.below.size
  obtain ⟨k1, k2⟩ := h.hrel.bind (w' := w.alloc (.map #[] 0)) (id := S.next) (next' := S.next + 1) (l := .at w.heap.size 0 0) (o := .map []) ((Below.refl _ _).alloc hN _)
    (fun b hb' _ => Below.heap_alloc w _ b hb') (fun b base n e => by injection e with e1 e2 e3; subst e1; exact .inl (Nat.le_refl _))
    (fun e => ⟨#[], 0, World.alloc_heap_new w _, rfl, fun i k v hi => by simp at hi⟩) (Nat.le_succ _) (Nat.lt_succ_self _)
  refine ⟨.map (some w.heap.size), w.alloc (.map #[] 0), _, ?_, ?_, ⟨?_, h.tmps.evo k2, ?_, ?_⟩, k2⟩
  · unfold Instr.makeMap
    simp only [Sem.run_bind, run_newObj, Sem.run_pure, Result.andThen_ok]
    rfl
  · refine .mapv ⟨_, rfl⟩ ⟨_, rfl, by simp [LI.bind, h.clk], fun b base n hb => ?_⟩
    rw [← h.clk, LI.bind_same] at hb
    injection hb with hb; injection hb with q1 q2 q3; subst q1; rfl
  · simp [LI.bind, AS.new, h.clk]
  · refine k1.congr fun i => ?_
    simp only [AS.new, ← h.clk]; rw [look_putl, look_cons]
  · refine (h.marks.bind (id := S.next) (s := I.clk) (o := .map []) fun st e => ?_).congr fun i => ?_
    · rw [h.hrel.free _ (Nat.le_refl _)] at e; cases e
    · simp only [AS.new, ← h.clk]; rw [look_putl, look_cons]

end
end Go.Am
