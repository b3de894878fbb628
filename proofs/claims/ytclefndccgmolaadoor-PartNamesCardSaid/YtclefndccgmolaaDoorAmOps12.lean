/-
  APPEND. A general base for proofs: no program is named here.
-/
import Derived.Test.YtclefndccgmolaaDoorAmOps11
namespace Go.Am
open Go Go.RowKit

section
variable {P : Program} {w0 w : World} {N0 : Nat} {I : LI} {S S' : AS} {a : Act} {io : IOp} {v : AV}

theorem Rel.drew (h : Rel w0 N0 I S a w) : Rel w0 N0 I S a w.drew ∧ Evo I w I w.drew :=
  let ⟨h1, h2⟩ := h.hrel.drew
  ⟨⟨h.clk, h.tmps.evo h2, h1, h.marks⟩, h2⟩

theorem CRel.append {w : World} {ro : Nat → Prop} {L : Option LI} {cs ds : List AV} {us zs : Array Value} (h1 : CRel w ro L cs us) (h2 : CRel w ro L ds zs) (rest : Array Value) (i : Nat) (x : AV) (hx : (cs ++ ds)[i]? = some x) :
    VRel w ro L x ((us ++ zs ++ rest).getD i undef) := by
  rw [Array.getD_eq_getD_getElem?]
  by_cases h : i < cs.length
  · rw [List.getElem?_append_left h] at hx
    have : (us ++ zs ++ rest)[i]? = us[i]? := by
      rw [Array.append_assoc, Array.getElem?_append_left (by rw [h1.1]; exact h)]
    rw [this, ← Array.getD_eq_getD_getElem?]; exact h1.2 i x hx
  · rw [List.getElem?_append_right (by omega)] at hx
    have hlt : i - cs.length < ds.length := (List.getElem?_eq_some_iff.1 hx).1
    have : (us ++ zs ++ rest)[i]? = zs[i - cs.length]? := by
      rw [Array.append_assoc, Array.getElem?_append_right (by rw [h1.1]; omega), Array.getElem?_append_left (by rw [h2.1, h1.1]; exact hlt), h1.1]
    rw [this, ← Array.getD_eq_getD_getElem?]; exact h2.2 _ x hx

/-- The operand types of an append, as the machine reads them. -/
structure AppT (P : Program) (ts : Array TypeId) (e : TypeId) (sz bytes : Nat) (z : List AV) : Prop where
  t : ∃ t, ts[0]? = some t ∧ P.underlying t = some (.slice e)
  t2 : ∃ t2 e2, ts[1]? = some t2 ∧ P.underlying t2 = some (.slice e2)
  size : sizeOf? P e = some sz
  zero : zeroOf P e = some z
  byt : bytesOf? P e = some bytes
  zl : z.length = sz
  s0 : sz ≠ 0
  b0 : bytes ≠ 0

theorem run_append_fits {ts : Array TypeId} {e : TypeId} {sz bytes : Nat} {z : List AV} (ht : AppT P ts e sz bytes z) {ty : TypeId} {args : Array Value} {p : Option Addr} {len c n : Nat} {p2 : Option Addr} {c2 : Nat}
    (h0 : args[0]? = some (.slice p len c)) (h1 : args[1]? = some (.slice p2 n c2)) (hle : len + n ≤ c) {new : Array Value} (hn : (Builtin.firstCells sz n (.slice p2 n c2)).run P w = .ok new w) {w' : World}
    (hst : match p with | some q => (storeCells (q.add (len * sz)) new.toList).run P w = .ok () w' | none => w' = w) : (Builtin.append_ ts ty args).run P w = .ok (.slice p (len + n) c) w' := by
  obtain ⟨t, ht0, htu⟩ := ht.t
  obtain ⟨t2, e2, ht1, htu2⟩ := ht.t2
  unfold Builtin.append_
  simp only [ht0, h0, h1, ht1, Sem.run_bind, rn_underlying htu, Result.andThen_ok, rn_size ht.size, rn_underlying htu2, Sem.run_pure, Bool.false_eq_true, if_false, Builtin.lenOf, Bool.not_false, if_true, hle, hn]
  cases p with
  | none => simp only at hst; subst hst; simp
  | some q => simp only at hst; simp [hst]

theorem run_append_grow {ts : Array TypeId} {e : TypeId} {sz bytes : Nat} {z : List AV} (ht : AppT P ts e sz bytes z) {ty : TypeId} {args : Array Value} {p : Option Addr} {len c n : Nat} {p2 : Option Addr} {c2 : Nat}
    (h0 : args[0]? = some (.slice p len c)) (h1 : args[1]? = some (.slice p2 n c2)) (hgt : c < len + n) (hb : len + n ≤ 1048576) (hb2 : bytes ≤ 16777216) {old new : Array Value}
    (ho : (Builtin.firstCells sz len (.slice p len c)).run P w.drew = .ok old w.drew) (hn : (Builtin.firstCells sz n (.slice p2 n c2)).run P w.drew = .ok new w.drew) :
    ∃ newCap rest, len + n ≤ newCap ∧ rest.size = (newCap - (len + n)) * sz ∧
      (Builtin.append_ ts ty args).run P w = .ok (.slice (some ⟨w.heap.size, 0, none⟩) (len + n) newCap) (w.drew.alloc (.cells (old ++ new ++ rest) e)) := by
  obtain ⟨t, ht0, htu⟩ := ht.t
  obtain ⟨t2, e2, ht1, htu2⟩ := ht.t2
  obtain ⟨inf, u, hi, hzz, hcr⟩ := zero_crel ht.zero
  have hby : inf.bytes = bytes := by
    have := ht.byt; unfold bytesOf? at this; rw [hi] at this; simpa using this
  have hzs : u.cells.size = sz := by rw [(hcr w (fun _ => True) none).1, ht.zl]
  have n1 : ¬ (len + n ≤ c) := by omega
  have n2 : ¬ (((len + n : Nat) : Int) > IntKind.i64.max ∧ (False ∨ inf.bytes = 0)) := by
    rintro ⟨_, h | h⟩
    · cases h
    · exact ht.b0 (hby ▸ h)
  have n3 : ¬ (Builtin.nextslicecap (len + n) c * inf.bytes > 2 ^ 48) := by
    have k1 := nextcap_le (len + n) c hgt
    have k2 : Builtin.nextslicecap (len + n) c * inf.bytes ≤ 4194304 * 16777216 := Nat.mul_le_mul (by omega) (by rw [hby]; exact hb2)
    omega
  refine ⟨Question.cut (.appendCap (len + n) c e) (w.tape w.drawn (.appendCap (len + n) c e)), Builtin.zeroCells u.cells (Question.cut (.appendCap (len + n) c e) (w.tape w.drawn (.appendCap (len + n) c e)) - (len + n)), ?_, ?_, ?_⟩
  · simp [Question.cut]
  · simp [Builtin.zeroCells, hzs]
  · unfold Builtin.append_
    simp only [ht0, h0, h1, ht1, Sem.run_bind, rn_underlying htu, Result.andThen_ok, rn_size ht.size, rn_underlying htu2, Sem.run_pure, Bool.false_eq_true, if_false, Builtin.lenOf, Bool.not_false, if_true, n1, typeInfo, run_program, hi, n2, n3]
    simp only [run_choose_drew, Question.forced, Bool.false_eq_true, if_false, Result.andThen_ok, run_askRoom, ho, hn, zeroValue, typeInfo, Sem.run_bind, run_program, hi, Sem.run_pure, hzz, newRow, run_newObj]
    rfl

/-- A block of the call's own is grown: its name stays, its stamp is new. -/
theorem rebind_rel (h : Rel w0 N0 I S a w) {id st : Nat} {cs cs' : List AV} (hl : look id S.heap = some (st, .cells cs)) {l : Loc} {w' : World} (hbelow : Below N0 w w')
    (hold : ∀ b, b < w.heap.size → (∀ st base n, I.loc id st ≠ some (.at b base n)) → w'.heap[b]? = w.heap[b]?)
    (hlo : ∀ b base n, l = .at b base n → w.heap.size ≤ b ∨ ∃ st base' n', I.loc id st = some (.at b base' n'))
    (ho : Evo I w (I.bind id l) w' → ORel w' (I.bind id l) l (.cells cs')) :
    Rel w0 N0 (I.bind id l) { S with heap := putl id (S.clk, .cells cs') S.heap, clk := S.clk + 1 } a w' ∧ Evo I w (I.bind id l) w' := by
  have hid : id < S.next := by
    rcases Nat.lt_or_ge id S.next with h1 | h1
    · exact h1
    · rw [h.hrel.free id h1] at hl; cases hl
  obtain ⟨k1, k2⟩ := h.hrel.bind hbelow hold hlo ho (Nat.le_refl S.next) hid
  rw [h.clk] at k1
  exact ⟨⟨by simp [LI.bind, h.clk], h.tmps.evo k2, k1, h.marks.bind fun s e => by rw [hl] at e; cases e⟩, k2⟩

theorem s_append (h : Rel w0 N0 I S a w) {ts : Array TypeId} {e : TypeId} {sz bytes : Nat} {z : List AV} (ht : AppT P ts e sz bytes z) {ty : TypeId} {args : Array Value} {su xu : Value} (h0 : args[0]? = some su) (h1 : args[1]? = some xu)
    {sv xv : AV} {es : List (List AV)} (hs : VRel w I.ro (some I) sv su) (hx : VRel w I.ro (some I) xv xu) (he : S.elems sz xv = some es) (hr : appendS S sz bytes sv es = some (v, S')) :
    ∃ u w' I', (Builtin.append_ ts ty args).run P w = .ok u w' ∧ VRel w' I'.ro (some I') v u ∧ Rel w0 N0 I' S' a w' ∧ Evo I w I' w' := by
  obtain ⟨p2, n, c2, rfl, hn, hnc, hsz, hfc⟩ := elems_rel (P := P) h hx he
  -- at the world with one draw more
  obtain ⟨hd, hdE⟩ := h.drew
  have hsd := hs.evo hdE
  obtain ⟨_, _, _, e2, _, _, _, hfcd⟩ := elems_rel (P := P) hd (hx.evo hdE) he
  injection e2 with q1 q2 q3
  subst q1 q2 q3
  have full : es.take n = es := by rw [hn]; simp
  obtain ⟨new, hnew, hnewC⟩ := hfc n (Nat.le_refl _)
  obtain ⟨newd, hnewd, hnewdC⟩ := hfcd n (Nat.le_refl _)
  rw [full] at hnewC hnewdC
  have hfl : es.flatten.length = n * sz := by rw [flatten_len sz es hsz, hn]
  unfold appendS at hr
  split at hr
  · -- nothing appended
    rename_i hz
    obtain rfl : n = 0 := by omega
    have hnn : new = #[] := Array.eq_empty_of_size_eq_zero (by rw [hnewC.1, hfl]; simp)
    subst hnn
    have fin : ∀ (p : Option Addr) (len c : Nat), su = .slice p len c → len ≤ c → (Builtin.append_ ts ty args).run P w = .ok su w := by
      intro p len c e hle
      subst e
      have := run_append_fits (P := P) (w := w) (w' := w) ht (ty := ty) h0 h1 (by omega) hnew (by cases p <;> simp [storeCells])
      simpa using this
    split at hr <;> simp only [Option.some.injEq, Prod.mk.injEq, reduceCtorEq] at hr
    · obtain ⟨rfl, rfl⟩ := hr
      refine ⟨su, w, I, ?_, hs, h, Evo.refl I w⟩
      generalize su = su' at hs h0 fin
      cases hs
      exact fin _ _ _ rfl (Nat.le_refl _)
    · obtain ⟨rfl, rfl⟩ := hr
      refine ⟨su, w, I, ?_, hs, h, Evo.refl I w⟩
      generalize su = su' at hs h0 fin
      cases hs with
      | vs us hl hcap ha hsz hc hv => exact fin _ _ _ rfl hcap
    · obtain ⟨rfl, rfl⟩ := hr
      refine ⟨su, w, I, ?_, hs, h, Evo.refl I w⟩
      generalize su = su' at hs h0 fin
      cases hs with
      | ms hl hp hcap hcl => exact fin _ _ _ rfl hl
  · rename_i hz
    have hn0 : 0 < n := by omega
    split at hr
    · rename_i hcond
      obtain ⟨hcell, hby⟩ := hcond
      split at hr
      · -- onto nothing
        split at hr
        · rename_i hlim
          simp only [Option.some.injEq, Prod.mk.injEq] at hr
          obtain ⟨rfl, rfl⟩ := hr
          generalize su = su' at hs h0
          cases hs
          rename_i p
          have ho : (Builtin.firstCells sz 0 (.slice p 0 0)).run P w.drew = .ok #[] w.drew := by cases p <;> simp [Builtin.firstCells, loadCells, loadCellsFrom]
          obtain ⟨nc, rest, r1, r2, r3⟩ := run_append_grow (P := P) (w := w) ht (ty := ty) h0 h1 (by omega : 0 < 0 + n) (by omega) hby ho hnewd
          have hc : CRel w.drew I.ro (some I) [] (#[] : Array Value) := ⟨rfl, fun i x hx => by simp at hx⟩
          obtain ⟨k1, k2⟩ := new_rel hd (cs := es.flatten) (us := #[] ++ newd ++ rest) (elem := e) (fun i x hx => hc.append hnewdC rest i x (by simpa using hx)) (by simp [hnewdC.1])
          refine ⟨_, _, _, r3, ?_, k1, hdE.trans k2⟩
          rw [← h.clk, ← hn]
          have : (#[] ++ newd ++ rest).size = nc * sz := by
            simp [hnewdC.1, hfl, r2]
            rw [← Nat.add_mul]; congr 1; omega
          rw [Nat.zero_add]
          exact ms_new (by omega) (fun k hk => by cases hk) (fun _ => this.symm)
        · cases hr
      · rename_i id st sz' off len cap
        split at hr
        · rename_i st' cs hl
          split at hr
          · rename_i hc4
            obtain ⟨rfl, rfl, hle, hlim⟩ := hc4
            -- the slice's own elements, read once more
            have hel : S.elems sz' (.ms id st' sz' off len cap) = some (chunk sz' len (cs.drop off)) := by
              simp only [AS.elems, hl]; rw [if_pos ⟨trivial, trivial, hle⟩]
            obtain ⟨p, len', c, e3, hlen', hlc, _, hold⟩ := elems_rel (P := P) hd hsd hel
            subst e3
            rw [chunk_length] at hlen'
            subst hlen'
            obtain ⟨old, hold1, hold2⟩ := hold len' (Nat.le_refl _)
            have hoc : ((chunk sz' len' (cs.drop off)).take len').flatten = (cs.drop off).take (len' * sz') := by
              have : (chunk sz' len' (cs.drop off)).take len' = chunk sz' len' (cs.drop off) := List.take_of_length_le (by rw [chunk_length]; exact Nat.le_refl _)
              rw [this, chunk_flatten]; simp; omega
            rw [hoc] at hold2
            -- a new block
            have grow : c < len' + n → ∃ nc rest, len' + n ≤ nc ∧ rest.size = (nc - (len' + n)) * sz' ∧ (old ++ newd ++ rest).size = nc * sz' ∧
                (Builtin.append_ ts ty args).run P w = .ok (.slice (some ⟨w.heap.size, 0, none⟩) (len' + n) nc) (w.drew.alloc (.cells (old ++ newd ++ rest) e)) := by
              intro hgt
              obtain ⟨nc, rest, r1, r2, r3⟩ := run_append_grow (P := P) (w := w) ht (ty := ty) h0 h1 hgt (by omega) hby hold1 hnewd
              refine ⟨nc, rest, r1, r2, ?_, r3⟩
              simp only [Array.size_append, hold2.1, hnewdC.1, hfl, r2]
              have : ((cs.drop off).take (len' * sz')).length = len' * sz' := by simp; omega
              rw [this, ← Nat.add_mul, ← Nat.add_mul]; congr 1; omega
            cases hs with
            | ms hlc hp hcap hcl =>
              obtain ⟨J, hJ, c1, c2, c3⟩ := hcl
              injection hJ with hJ; subst hJ
              have loc0 : c ≠ 0 → ∃ b base nn, I.loc id st' = some (.at b base nn) ∧ p = some ⟨b, base + off, none⟩ ∧ (cap = none → base + off + c * sz' = nn) := by
                intro hc0
                obtain ⟨_, l, hl', hol⟩ := h.hrel.heap _ _ _ hl
                cases l with
                | void => exact absurd (c3 hl') hc0
                | «at» b base nn =>
                  rcases c2 b base nn hl' with h00 | ⟨e1, e4⟩
                  · exact absurd h00 hc0
                  · exact ⟨b, base, nn, hl', e1, e4⟩
              -- the row that an append in place leaves
              have place : len' + n ≤ c → ∃ b base nn cc elem, I.loc id st' = some (.at b base nn) ∧ p = some ⟨b, base + off, none⟩ ∧ (cap = none → base + off + c * sz' = nn) ∧ w.heap[b]? = some (.cells cc elem (0, 0)) ∧ cc.size = nn ∧
                  (base + off + (len' + n) * sz' ≤ nn → (Builtin.append_ ts ty args).run P w = .ok (.slice p (len' + n) c) (w.setRow b (setAt (base + off + len' * sz') cc.toList new.toList).toArray) ∧
                    ∀ i x, (setAt (off + len' * sz') cs es.flatten)[i]? = some x → off + len' * sz' + es.flatten.length ≤ cs.length → VRel w I.ro (some I) x ((setAt (base + off + len' * sz') cc.toList new.toList).toArray.getD (base + i) undef)) := by
                intro hfit
                obtain ⟨b, base, nn, hloc, hpe, hcn⟩ := loc0 (by omega)
                obtain ⟨cc, elem, o1, o2, o3, o4⟩ := cells_at h hl hloc
                refine ⟨b, base, nn, cc, elem, hloc, hpe, hcn, o1, o2, fun hroom => ?_⟩
                have hnl : new.toList.length = n * sz' := by simp [hnewC.1, hfl]
                have hms : len' * sz' + n * sz' = (len' + n) * sz' := by rw [Nat.add_mul]
                have hone : ∀ u ∈ new.toList, u.oneCell' = true := by
                  intro u hu
                  obtain ⟨i, hi, rfl⟩ := List.mem_iff_getElem.1 hu
                  have hi' : i < es.flatten.length := by rw [hfl, ← hnl]; exact hi
                  have hv := hnewC.2 i es.flatten[i] (by simp)
                  have : new.getD i undef = new.toList[i] := by
                    have hi2 : i < new.size := by simpa using hi
                    simp [Array.getD_eq_getD_getElem?, hi2]
                  rw [this] at hv
                  exact oneCell_of_rel hv (List.all_eq_true.1 hcell _ (List.getElem_mem hi'))
                have rs := run_storeCells_at (P := P) b (base + off + len' * sz') elem new.toList 0 cc w o1 (by rw [hnl]; omega) hone
                simp only [Nat.add_zero] at rs
                constructor
                · subst hpe
                  refine run_append_fits (P := P) (w := w) ht (ty := ty) h0 h1 hfit hnew ?_
                  simp only [add_none]
                  exact rs
                · intro i x hx hlen
                  rw [setAt_get _ cs es.flatten hlen] at hx
                  have hg := setAt_get (base + off + len' * sz') cc.toList new.toList (by rw [hnl]; simp; omega) (base + i)
                  have e5 : (setAt (base + off + len' * sz') cc.toList new.toList).toArray.getD (base + i) undef = ((setAt (base + off + len' * sz') cc.toList new.toList)[base + i]?).getD undef := by
                    simp [Array.getD_eq_getD_getElem?]
                  rw [e5, hg, hnl]
                  rw [hfl] at hx
                  by_cases g1 : i < off + len' * sz'
                  · rw [if_pos g1] at hx
                    rw [if_pos (by omega)]
                    have := o4 i x hx
                    simpa [Array.getD_eq_getD_getElem?] using this
                  · rw [if_neg g1] at hx
                    rw [if_neg (by omega)]
                    by_cases g2 : i < off + len' * sz' + n * sz'
                    · rw [if_pos g2] at hx
                      rw [if_pos (by omega)]
                      have := hnewC.2 _ x hx
                      rw [show base + i - (base + off + len' * sz') = i - (off + len' * sz') from by omega]
                      simpa [Array.getD_eq_getD_getElem?] using this
                    · rw [if_neg g2] at hx
                      rw [if_neg (by omega)]
                      have := o4 i x hx
                      simpa [Array.getD_eq_getD_getElem?] using this
              split at hr
              · rename_i k
                have hck : c = k := hcap k rfl
                subst hck
                split at hr
                · rename_i hfit
                  split at hr
                  · rename_i hroom
                    simp only [Option.some.injEq, Prod.mk.injEq] at hr
                    obtain ⟨rfl, rfl⟩ := hr
                    obtain ⟨b, base, nn, cc, elem, hloc, hpe, hcn, o1, o2, go⟩ := place (by omega)
                    obtain ⟨_, _, _, _, o3, _⟩ := cells_at h hl hloc
                    have hsl : off + len' * sz' + es.flatten.length ≤ cs.length := by rw [hfl, Nat.add_assoc, ← Nat.add_mul, hn]; exact hroom
                    obtain ⟨g1, g2⟩ := go (by rw [← hn] at hroom; omega)
                    obtain ⟨k1, k2⟩ := write_rel h hl hloc o1 (cs' := setAt (off + len' * sz') cs es.flatten) (c' := (setAt (base + off + len' * sz') cc.toList new.toList).toArray)
                      (by rw [List.size_toArray, setAt_length (base + off + len' * sz') cc.toList new.toList (by rw [← hn, Nat.add_mul] at hroom; simp [hnewC.1, hfl]; omega)]; exact o2) (by rw [setAt_length _ _ _ hsl]; exact o3) (fun i x hx => g2 i x hx hsl)
                    refine ⟨_, _, I, g1, ?_, k1, k2⟩
                    rw [← hn]
                    refine .ms (by omega) (fun _ => ⟨_, hpe⟩) hcap ⟨I, rfl, c1, fun b' base' n' hb => ?_, fun hb => c3 hb⟩
                    rw [hloc] at hb; injection hb with hb; injection hb with q1 q2 q3; subst q1 q2 q3
                    exact .inr ⟨hpe, fun hh => by cases hh⟩
                  · cases hr
                · rename_i hnf
                  simp only [Option.some.injEq, Prod.mk.injEq] at hr
                  obtain ⟨rfl, rfl⟩ := hr
                  obtain ⟨nc, rest, r1, r2, r3, r4⟩ := grow (by omega)
                  obtain ⟨k1, k2⟩ := new_rel hd (cs := (cs.drop off).take (len' * sz') ++ es.flatten) (us := old ++ newd ++ rest) (elem := e) (fun i x hx => hold2.append hnewdC rest i x hx) (by simp [hnewdC.1, hold2.1])
                  refine ⟨_, _, _, r4, ?_, k1, hdE.trans k2⟩
                  rw [← h.clk, ← hn]
                  exact ms_new (by omega) (fun k hk => by cases hk) (fun _ => r3.symm)
              · · simp only [Option.some.injEq, Prod.mk.injEq] at hr
                  obtain ⟨rfl, rfl⟩ := hr
                  rw [cutTo_eq]
                  by_cases hfit : len' + n ≤ c
                  · obtain ⟨b, base, nn, cc, elem, hloc, hpe, hcn, o1, o2, go⟩ := place hfit
                    have hcn := hcn rfl
                    have hroom : base + off + (len' + n) * sz' ≤ nn := by
                      have : (len' + n) * sz' ≤ c * sz' := Nat.mul_le_mul_right _ hfit
                      omega
                    obtain ⟨g1, _⟩ := go hroom
                    obtain ⟨cc', elem', o1', o2', o3, o4⟩ := cells_at h hl hloc
                    rw [o1] at o1'; injection o1' with o1'; injection o1' with q1 q2 q3; subst q1 q2
                    have hms : len' * sz' + n * sz' = (len' + n) * sz' := by rw [Nat.add_mul]
                    have hnl : new.toList.length = n * sz' := by simp [hnewC.1, hfl]
                    have hrb : (setAt (base + off + len' * sz') cc.toList new.toList).length = cc.toList.length := setAt_length _ _ _ (by rw [hnl]; simp; omega)
                    obtain ⟨k1, k2⟩ := rebind_rel h hl (cs' := (cs.drop off).take (len' * sz') ++ es.flatten) (l := .at b (base + off) nn) (w' := w.setRow b (setAt (base + off + len' * sz') cc.toList new.toList).toArray)
                      (setRow_below _ (h.hrel.fresh _ _ _ _ _ hloc)) (fun b' _ hb' => setRow_other w b b' _ (fun e => by subst e; exact hb' _ _ _ hloc))
                      (fun b' base' n' e => by injection e with q1 q2 q3; subst q1; exact .inr ⟨_, _, _, hloc⟩)
                      (fun ev => ⟨_, elem, setRow_heap w b cc _ elem (0, 0) o1, by simp [hrb, o2], by simp [hfl]; omega, fun i x hx => by
                        refine VRel.evo ?_ ev
                        have hg := setAt_get (base + off + len' * sz') cc.toList new.toList (by rw [hnl]; simp; omega) (base + off + i)
                        have e5 : (setAt (base + off + len' * sz') cc.toList new.toList).toArray.getD (base + off + i) undef = ((setAt (base + off + len' * sz') cc.toList new.toList)[base + off + i]?).getD undef := by
                          simp [Array.getD_eq_getD_getElem?]
                        rw [e5, hg, hnl]
                        have hdl : ((cs.drop off).take (len' * sz')).length = len' * sz' := by simp; omega
                        by_cases g1 : i < len' * sz'
                        · rw [List.getElem?_append_left (by omega), List.getElem?_take_of_lt g1, List.getElem?_drop] at hx
                          rw [if_pos (by omega)]
                          have := o4 _ x hx
                          simpa [Array.getD_eq_getD_getElem?, Nat.add_assoc] using this
                        · rw [List.getElem?_append_right (by omega), hdl] at hx
                          have hlt : i - len' * sz' < n * sz' := by rw [← hfl]; exact (List.getElem?_eq_some_iff.1 hx).1
                          rw [if_neg (by omega), if_pos (by omega)]
                          have := hnewC.2 _ x hx
                          rw [show base + off + i - (base + off + len' * sz') = i - len' * sz' from by omega]
                          simpa [Array.getD_eq_getD_getElem?] using this⟩)
                    refine ⟨_, _, _, g1, ?_, k1, k2⟩
                    rw [← h.clk, ← hn]
                    refine .ms (by omega) (fun _ => ⟨_, hpe⟩) (fun k hk => by cases hk) ⟨_, rfl, Nat.lt_succ_self _, fun b' base' n' hb => ?_, fun hb => ?_⟩
                    · rw [LI.bind_same] at hb; injection hb with hb; injection hb with q1 q2 q3; subst q1 q2 q3
                      exact .inr ⟨by rw [hpe]; rfl, fun _ => by omega⟩
                    · rw [LI.bind_same] at hb; cases hb
                  · obtain ⟨nc, rest, r1, r2, r3, r4⟩ := grow (by omega)
                    have hN : N0 ≤ w.drew.heap.size := Nat.le_trans h.hrel.base h.hrel.below.size
                    obtain ⟨k1, k2⟩ := rebind_rel hd hl (cs' := (cs.drop off).take (len' * sz') ++ es.flatten) (l := .at w.drew.heap.size 0 (old ++ newd ++ rest).size) (w' := w.drew.alloc (.cells (old ++ newd ++ rest) e))
                      ((Below.refl _ _).alloc hN _) (fun b' hb' _ => Below.heap_alloc _ _ b' hb')
                      (fun b' base' n' e => by injection e with q1 q2 q3; subst q1; exact .inl (Nat.le_refl _))
                      (fun ev => ⟨_, e, World.alloc_heap_new _ _, rfl, by simp [hnewdC.1, hold2.1], fun i x hx => by
                        rw [Nat.zero_add]
                        exact (hold2.append hnewdC rest i x hx).evo ev⟩)
                    refine ⟨_, _, _, r4, ?_, k1, hdE.trans k2⟩
                    rw [← h.clk, ← hn]
                    exact ms_new (by omega) (fun k hk => by cases hk) (fun _ => r3.symm)
          · cases hr
        · cases hr
      · cases hr
    · cases hr

theorem s_appendz (h : Rel w0 N0 I S a w) {ts : Array TypeId} {e : TypeId} {sz bytes : Nat} {z : List AV} (ht : ∃ t, ts[0]? = some t ∧ P.underlying t = some (.slice e)) (ht2 : ∃ t2 k2, ts[1]? = some t2 ∧ P.underlying t2 = some (.int k2))
    (hsz : sizeOf? P e = some sz) (hzr : zeroOf P e = some z) (hbt : bytesOf? P e = some bytes) (zl : z.length = sz) (s0 : sz ≠ 0) {ty : TypeId} {args : Array Value} {su : Value} {k : IntKind} {n : Int} (h0 : args[0]? = some su) (h1 : args[1]? = some (.int k n))
    {sv : AV} (hs : VRel w I.ro (some I) sv su) (hr : appendZ S sz bytes z sv n = some (v, S')) :
    ∃ u w' I', (Builtin.append_ ts ty args).run P w = .ok u w' ∧ VRel w' I'.ro (some I') v u ∧ Rel w0 N0 I' S' a w' ∧ Evo I w I' w' := by
  unfold appendZ at hr
  split at hr <;> try cases hr
  split at hr <;> try cases hr
  rename_i hc
  obtain ⟨c1, c2, c3⟩ := hc
  cases hs
  rename_i p
  obtain ⟨hd, hdE⟩ := h.drew
  obtain ⟨t, ht0, htu⟩ := ht
  obtain ⟨t2, k2, ht1, htu2⟩ := ht2
  obtain ⟨inf, u, hi, hzz, hcr⟩ := zero_crel hzr
  have hby : inf.bytes = bytes := by
    have := hbt; unfold bytesOf? at this; rw [hi] at this; simpa using this
  have hzs : u.cells.size = sz := by rw [(hcr w (fun _ => True) none).1, zl]
  obtain ⟨m, rfl⟩ : ∃ m : Nat, n = (m : Int) := ⟨n.toNat, by omega⟩
  have wl : IntKind.i64.wrap (m : Int) = (m : Int) := wrap_small (m : Int) (by omega) (by omega)
  have m1 : ¬ ((m : Int) < 0) := by omega
  have m2 : ¬ ((m : Int) * (inf.bytes : Int) > 2 ^ 48) := by
    rw [hby]
    have : (m : Int) * (bytes : Int) ≤ 1048576 * 16777216 := Int.mul_le_mul (by omega) (by omega) (by omega) (by omega)
    omega
  have m3 : ¬ (m * sz = 0) := by
    intro e; rcases Nat.mul_eq_zero.1 e with e | e <;> omega
  have n1 : ¬ (0 + m ≤ 0) := by omega
  have n2 : ¬ (((0 + m : Nat) : Int) > IntKind.i64.max) := by
    have : IntKind.i64.max = 9223372036854775807 := by decide
    omega
  have n3 : ¬ (Builtin.nextslicecap (0 + m) 0 * inf.bytes > 2 ^ 48) := by
    have k1 := nextcap_le (0 + m) 0 (by omega)
    have k2 : Builtin.nextslicecap (0 + m) 0 * inf.bytes ≤ 4194304 * 16777216 := Nat.mul_le_mul (by omega) (by rw [hby]; exact c3)
    omega
  have ho : (Builtin.firstCells sz 0 (.slice p 0 0)).run P w.drew = .ok #[] w.drew := by cases p <;> simp [Builtin.firstCells, loadCells, loadCellsFrom]
  have hq : ∃ nc, 0 + m ≤ nc ∧ (Builtin.append_ ts ty args).run P w = .ok (.slice (some ⟨w.heap.size, 0, none⟩) (0 + m) nc) (w.drew.alloc (.cells (#[] ++ Builtin.zeroCells u.cells m ++ Builtin.zeroCells u.cells (nc - (0 + m))) e)) := by
    refine ⟨Question.cut (.appendCap (0 + m) 0 e) (w.tape w.drawn (.appendCap (0 + m) 0 e)), ?_, ?_⟩
    · simp [Question.cut]
    · unfold Builtin.append_
      simp only [ht0, h0, h1, ht1, Sem.run_bind, rn_underlying htu, Result.andThen_ok, rn_size hsz, rn_underlying htu2, Sem.run_pure, Bool.false_eq_true, if_false, Bool.not_true, if_true, asInt, asIntOf, wl, m1, typeInfo, run_program, hi, m2, Int.toNat_natCast, m3, n1, n2, n3, true_or, and_true, zeroValue, hzz]
      simp only [run_choose_drew, Question.forced, Bool.false_eq_true, if_false, Result.andThen_ok, run_askRoom, ho, Sem.run_bind, Sem.run_pure, newRow, run_newObj]
      rfl
  obtain ⟨nc, r1, r3⟩ := hq
  have hzc : CRel w.drew I.ro (some I) (repl m z) (Builtin.zeroCells u.cells m) := by
    have := range_crel (hcr w.drew I.ro (some I)) (by omega : 0 < z.length) m
    unfold Builtin.zeroCells
    rw [hzs, ← zl]
    rw [← hzs] at zl
    simpa [zl] using this
  have hc : CRel w.drew I.ro (some I) [] (#[] : Array Value) := ⟨rfl, fun i x hx => by simp at hx⟩
  obtain ⟨k1, k2⟩ := new_rel hd (cs := repl m z) (us := #[] ++ Builtin.zeroCells u.cells m ++ Builtin.zeroCells u.cells (nc - (0 + m))) (elem := e) (fun i x hx => hc.append hzc _ i x (by simpa using hx)) (by simp [hzc.1])
  refine ⟨_, _, _, r3, ?_, k1, hdE.trans k2⟩
  rw [← h.clk, Nat.zero_add, Int.toNat_natCast]
  have : (#[] ++ Builtin.zeroCells u.cells m ++ Builtin.zeroCells u.cells (nc - (0 + m))).size = nc * sz := by
    simp [Builtin.zeroCells, hzs]
    rw [← Nat.add_mul]; congr 1; omega
  rw [Nat.zero_add] at this
  exact ms_new (by omega) (fun k hk => by cases hk) (fun _ => this.symm)

end
end Go.Am
