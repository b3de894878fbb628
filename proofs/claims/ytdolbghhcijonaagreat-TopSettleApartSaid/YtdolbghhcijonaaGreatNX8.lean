/-
  ROUNDS UNTIL NOTHING CHANGES.; SETTLE AND ROUND.; A STATE THAT IS COPIED (the reference): all its lists in new memory.; THE VALUES OF ALL LINES (the reference).; GATES THAT ARE COMPUTED (the reference).; THE FIRST STATE (the reference).
-/
import Derived.Test.YtdolbghhcijonaaGreatNX7
namespace Go.Proofs.YtdolbghhcijonaaGreat
open Go Go.Am
set_option maxRecDepth 100000
theorem Gq.elems {sz b nx ck n : Nat} {es : List (List AV)} {w : AV} {l : List (Nat × AV)} {hp : List (Nat × Nat × AObj)} (h : Gq sz b es w hp nx) (hs : ∀ e ∈ es, e.length = sz) : (st n l hp nx ck []).elems sz w = some es := by
 rcases h with ⟨rfl, rfl⟩ | ⟨id, sp, rfl, hl, _, _⟩
 ·rfl
 ·exact zf5 (ys := []) (by rw [y0s]; exact hl) rfl hs
theorem zsx (q : List Int) : (q.map fun b => ([.int .i64 b] : List AV)).flatten.all AV.isCell = true := by
 rw [y0h];intro x hx;obtain ⟨e, he, hx⟩ := List.mem_flatten.1 hx;obtain ⟨_, _, rfl⟩ := y0p.1 he;obtain rfl := y0o.1 hx;rfl
def Wl (L : List Int) (b : Nat) (w : AV) (H : HS) : Prop :=
 (L = [] /\ w = .vs []) \/ ∃ id sp J, w = .ms id sp 1 0 L.length none /\ Am.look id H.heap = some (sp, .cells (L.map (AV.int .i64) ++ J)) /\ b <= id /\ id < H.next
theorem zuv : cps (srt []) = [] := y0k.1 (by have h1 := zpp (srt []); have h2 := zfc []; rw [h2] at h1; exact Nat.le_zero.1 h1)
def badL (c : Ctl) (s : Sta) (n : Nat) : List Int := cps (srt (itC c s n))
def b22_0 : IC := .seq (sR [oT 9 6,
  oM 10 (.bin .leq (.t 9) (cI 64))]
 (.cond (.t 10) (.skip)
 (.exit 0)))
 (.seq (.block 1 (sR [oT 14 0,
  oM 15 (.call (.c (.fn 29 [] [])) [(.t 14)]),
  oT 13 15,
  oM 16 (.extract (.t 13) 0),
  oM 17 (.extract (.t 13) 1),
  oT 7 16,
  oT 8 17]
 (sR [oT 18 5,
  oT 19 8,
  oM 20 (.append 1 8 [.int .i64 0] (.t 18) (.t 19)),
  oT 5 20]
 (sR [oT 21 7,
  oM 22 (.un .not (.t 21))]
 (.cond (.t 22) (sR [oT 23 5,
  oM 24 (.call (.c (.fn 40 [] [])) [(.t 23)])]
 (sR [oT 25 6,
  oT 26 5,
  oM 27 (.call (.c (.fn 41 [] [])) [(.t 26)]),
  oT 2 25,
  oT 3 27,
  oM 4 (.mov (cI 0))]
 (.ret)))
 (.skip))))))
 (.region [oT 11 6,
  oM 12 (.bin .add (.t 11) (cI 1)),
  oT 6 12] none))
-- (*pneumatic/settle.machine).settle
def ic22 : IC := sR [oM 2 (.mov (cI 0)),
  oM 3 (.mov (.c (.nils))),
  oM 4 (.mov (cI 0))]
 (sR [oM 5 (.mov (.c (.nils)))]
 (.seq (sR [oM 6 (.mov (cI 0))]
 (.block 0 (.loop b22_0)))
 (sR [oM 2 (.mov (cI 0)),
  oM 3 (.mov (.c (.nils))),
  oM 4 (.mov (cI 21))]
 (.ret))))
theorem fn22 : env0.fn 22 = some ⟨28, ic22, [.t 2, .t 3, .t 4]⟩ := by kernel_rfl
set_option maxHeartbeats 8000000 in
set_option maxRecDepth 100000 in
theorem settle22 {w0 : World} {N0 : Nat} {c : Ctl} {s : Sta} {q : Nms} (h : Ct c) (hs : Ss c s) (H : HS) (hM : Mc c q s H) (hiv : q.iv < H.next) (hit : q.it < H.next) :
  FT Tryz.prog w0 N0 22 [.mptr q.m q.sm 0] H (fun v H' => (∃ n w, n <= 64 /\ (∀ j, j < n -> itS c s (j + 1) ≠ itS c s j) /\ itS c s (n + 1) = itS c s n /\ v = .tup [.int .i64 (n : Nat), w, .int .i64 0] /\ Mc c q (itS c s n) H' /\ Wl (badL c s (n + 1)) H.next w H' /\ Kp (fun j => j = q.iv \/ j = q.it) H H') \/
   ((∀ j, j <= 64 -> itS c s (j + 1) ≠ itS c s j) /\ v = .tup [.int .i64 0, .nils, .int .i64 21] /\ Kp (fun j => j = q.iv \/ j = q.it) H H')) := by
 have s16 := h.s16;obtain ⟨hp0, nx0, ck0⟩ := H;have hiv : q.iv < nx0 := hiv;have hit : q.it < nx0 := hit;have hqm : q.m < nx0 := hM.lm;refine zbl env0_ok fn22 [(0, .mptr q.m q.sm 0)] (y04 rfl) rfl ?_;unfold ic22;refine zc9 ?_;refine zav (fun mm S => ∃ (n : Nat) (hp : List (Nat × Nat × AObj)) (nx ck : Nat) (w : AV), mm = 65 - n /\ n <= 65 /\ (∀ j, j < n -> itS c s (j + 1) ≠ itS c s j) /\ Mc c q (itS c s n) ⟨hp, nx, ck⟩ /\ Gq 1 nx0 ((itC c s n).map fun z => [.int .i64 z]) w hp nx /\ Kp (fun j => j = q.iv \/ j = q.it) ⟨hp0, nx0, ck0⟩ ⟨hp, nx, ck⟩ /\ S = st 28 [(0, .mptr q.m q.sm 0), (5, w), (6, .int .i64 (n : Nat))] hp nx ck) 65
  skp ⟨0, _, _, _, _, rfl, y0r _, fun j hj => absurd hj (y1q _), hM, .inl ⟨rfl, rfl⟩, Kp.refl _ _, rfl⟩ ?_
 rintro mm S ⟨n, hp, nx, ck, w, rfl, hn, hne, hMn, hGn, hKn, rfl⟩;unfold b22_0;refine zcj ?_;have hnx : nx0 <= nx := hKn.next;refine za4 rfl rfl rfl (fun h3 => ?_) fun h3 => ?_
 ·have hn64 : n <= 64 := by
   have h4 : ((n : Nat) : Int) <= 64 := of_decide_eq_true h3;omega
  have w1 := za7 n (by omega);refine zc9 ?_;refine zhh _ rfl rfl (zgo (round29 h (zl7 hs n) ⟨hp, nx, ck⟩ hMn (by show q.iv < nx; omega) (by show q.it < nx; omega))) (fun _ _ _ _ hm => absurd hm y0c) ?_
  rintro v ⟨hp2, nx2, ck2⟩ ⟨w2, rfl, hM2, hk2, hG2⟩;have hn2 : nx <= nx2 := hk2.next;have hGo : Gq 1 nx0 ((itC c s n).map fun z => [.int .i64 z]) w hp2 nx2 := hGn.of hn2 fun i h1 h2 => hk2.look i (fun e => e.elim (by omega) (by omega)) h2;have hcl := zpz c s n;have hrl := zma c (itS c s n);have hml : n * c.sg.length <= 64 * 16 := Nat.mul_le_mul hn64 s16;refine zbh ?_;refine zt5 (sz := 1) (b := nx0) ((zko c (itS c s n)).map fun z => [.int .i64 z]) hGo (zk7 _) rfl rfl (hG2.elems (zk7 _)) (zsx _) (by decide) (show nx0 <= nx2 by omega) (by rw [y06, y06]; omega) ?_
  intro w3 hp3 nx3 ck3 hG3 hn3 hk3;have hn3 : nx2 <= nx3 := hn3;have hG3 : Gq 1 nx0 ((itC c s (n + 1)).map fun z => [.int .i64 z]) w3 hp3 nx3 := by
   rw [show itC c s (n + 1) = itC c s n ++ zko c (itS c s n) from rfl, y16]
   exact hG3
  have hM3 : Mc c q (itS c s (n + 1)) ⟨hp3, nx3, ck3⟩ := hM2.keepB (b := nx0) hqm hiv hit (by show nx0 <= nx3; omega) hk3
  have hK3 : Kp (fun j => j = q.iv \/ j = q.it) ⟨hp0, nx0, ck0⟩ ⟨hp3, nx3, ck3⟩ := ⟨by show nx0 <= nx3; omega, fun j hj hlt => (hk3 j hlt).trans ((hk2.look j hj (by show j < nx; have : j < nx0 := hlt; omega)).trans (hKn.look j hj hlt))⟩
  have hcl3 := zpz c s (n + 1);have hml3 : (n + 1) * c.sg.length <= 65 * 16 := Nat.mul_le_mul (by omega) s16;refine zbh ?_;have hsb : steB (itS c s n) (zfi c (itS c s n)) = true ↔ itS c s n = itS c s (n + 1) := steB_iff _ _;cases hb : steB (itS c s n) (zfi c (itS c s n)) with
  | true =>
   have heq := hsb.1 hb;have hMe : Mc c q (itS c s n) ⟨hp3, nx3, ck3⟩ := by rw [heq]; exact hM3
   have hbl : badL c s (n + 1) = cps (srt (itC c s (n + 1))) := rfl;generalize itC c s (n + 1) = L at *;rcases hG3 with ⟨e, rfl⟩ | ⟨id, sp, rfl, hl, k1, k2, k3⟩
   ·have e : L = [] := List.map_eq_nil_iff.1 e;subst e;refine zcj ?_;refine zal rfl rfl ints40 noC ?_;refine zcj ?_;refine zal rfl rfl zo8 noC ?_;refine zb7 ?_;exact zaa ⟨.inr rfl, _, rfl, .inl ⟨n, _, hn64, hne, heq.symm, rfl, hMe, .inl ⟨hbl.trans zuv, rfl⟩, hK3⟩⟩
   ·have hL : L ≠ [] := fun e => k3 (by rw [e]; rfl);have hl : Am.look id hp3 = some (sp, .cells (L.map (AV.int .i64))) := by rw [hl, zbi]
    rw [y06];have hne2 : srt L ≠ [] := fun e => hL (by have := zfc L; rw [e] at this; exact y0k.1 this.symm)
    refine zcj ?_;refine zhh _ rfl rfl (zbk (ztq (cap := none) (zs := L) ent64 zx1 hL (by omega) hl)) (fun _ _ _ _ hm => absurd hm y0c) ?_;rintro v _ ⟨rfl, rfl⟩;refine zcj ?_;refine zhh _ rfl (by rw [<- zfc L]; rfl) (zbk (zl9 (cap := none) (zs := srt L) (sp := sp) (id := id) (H := ⟨zap id (sp, .cells ((srt L).map (AV.int .i64))) hp3, nx3, ck3⟩) ent65 cpts65 hne2 (by rw [zfc]; omega) (by show Am.look id (zap id _ hp3) = _; rw [za0, if_pos rfl]))) (fun _ _ _ _ hm => absurd hm y0c) ?_
    rintro v _ ⟨rfl, rfl⟩;refine zb7 ?_;refine zaa ⟨.inr rfl, _, rfl, .inl ⟨n, _, hn64, hne, heq.symm, rfl, ?_, .inr ⟨id, sp, (List.replicate ((srt L).length - (cps (srt L)).length) 0).map (AV.int .i64), by rw [hbl], ?_, k1, k2⟩, ?_⟩⟩
    ·exact hMe.keepB (b := nx0) hqm hiv hit (by show nx0 <= nx3; omega) fun j hj => by
      show Am.look j (zap id _ (zap id _ hp3)) = _;rw [za0, if_neg (by omega), za0, if_neg (by omega)]
    ·show Am.look id (zap id _ (zap id _ hp3)) = _;rw [hbl, za0, if_pos rfl, y16]
    ·refine ⟨hK3.next, fun j hj hlt => ?_⟩;have hlt2 : j < nx0 := hlt;show Am.look j (zap id _ (zap id _ hp3)) = _;rw [za0, if_neg (by omega), za0, if_neg (by omega)];exact hK3.look j hj hlt
  | false =>
   refine zb7 ?_;rw [w1];exact zad (show 65 - (n + 1) < 65 - n by omega) skp ⟨n + 1, hp3, nx3, ck3, w3, rfl, by omega, fun j hj => by
    by_cases e : j = n
    ·subst e;intro e2;rw [hsb.2 e2.symm] at hb;cases hb
    ·exact hne j (by omega), hM3, hG3, hK3, rfl⟩
 ·have hn65 : n = 65 := by
   have h4 : ¬ ((n : Nat) : Int) <= 64 := of_decide_eq_false h3;omega
  refine zb4 ?_;refine zbq ?_;refine zb4 ?_;exact zaa ⟨.inr rfl, _, rfl, .inr ⟨fun j hj => hne j (by omega), rfl, hKn⟩⟩
set_option maxRecDepth 100000
theorem Mc.small {c : Ctl} {q : Nms} {s : Sta} {H : HS} {b : Nat} (h : Mc c q s H) (h1 : b <= q.m) (h2 : s.vals ≠ [] -> b <= q.iv) (h3 : s.tms ≠ [] -> b <= q.it) : ∃ q' : Nms, q'.m = q.m /\ q'.sm = q.sm /\ Mc c q' s H /\ (b <= q'.iv /\ q'.iv < H.next) /\ b <= q'.it /\ q'.it < H.next := by
 refine ⟨⟨q.m, q.sm, if s.vals = [] then q.m else q.iv, q.sv, if s.tms = [] then q.m else q.it, q.tt⟩, rfl, rfl, ⟨?_, h.lm, fun e => ?_, fun e => ?_, fun e1 e2 => ?_⟩, ?_, ?_⟩
 ·refine h.hm.trans ?_;have e1 : wvA s.vals (if s.vals = [] then q.m else q.iv) q.sv = wvA s.vals q.iv q.sv := by
   by_cases e : s.vals = []
   ·rw [e];rfl
   ·rw [if_neg e]
  have e2 : wtA true s.tms (if s.tms = [] then q.m else q.it) q.tt = wtA true s.tms q.it q.tt := by
   by_cases e : s.tms = []
   ·rw [e];rfl
   ·rw [if_neg e]
  unfold mcC;dsimp only;rw [e1, e2]
 ·dsimp only;rw [if_neg e];exact h.hv e
 ·dsimp only;rw [if_neg e];exact h.ht e
 ·dsimp only;rw [if_neg e1, if_neg e2];exact h.ne e1 e2
 ·dsimp only;split
  ·exact ⟨h1, h.lm⟩
  ·rename_i e;exact ⟨h2 e, (h.hv e).2.1⟩
 ·dsimp only;split
  ·exact ⟨h1, h.lm⟩
  ·rename_i e;exact ⟨h3 e, (h.ht e).2.1⟩
theorem Wl.view {L : List Int} {b : Nat} {w : AV} {H : HS} (h : Wl L b w H) {S : AS} (hk : ∀ j, b <= j -> j < H.next -> Am.look j S.heap = Am.look j H.heap) (d : Nat) : S.view (d + 1) w = vsI L := by
 rcases h with ⟨rfl, rfl⟩ | ⟨id, sp, J, rfl, hl, h1, h2⟩
 ·rfl
 ·exact zky L rfl ((hk id h1 h2).trans hl)
theorem Gq.viewI {L : List Int} {b nx : Nat} {w : AV} {hp : List (Nat × Nat × AObj)} (h : Gq 1 b (L.map fun z => [.int .i64 z]) w hp nx) {S : AS} (hk : ∀ j, b <= j -> j < nx -> Am.look j S.heap = Am.look j hp) (d : Nat) : S.view (d + 1) w = vsI L := by
 rcases h with ⟨e, rfl⟩ | ⟨id, sp, rfl, hl, h1, h2, _⟩
 ·rw [List.map_eq_nil_iff.1 e];rfl
 ·rw [y06];exact zds L rfl ((hk id h1 h2).trans (by rw [hl, zbi]))
theorem res3 {S : AS} {a b d k : Nat} {p v w : AV} {cs : List AV} (h1 : S.get a = some p) (d1 : S.deref p = some cs) (hk : k <= cs.length) (h2 : S.get b = some v) (h3 : S.get d = some w) : S.res [.cell a (some k), .t b, .t d] = some (.tup [.agg (cs.take k), v, w]) := by
 simp only [AS.res, AS.resL, zq1, h1, d1, if_pos hk, h2, h3];rfl
def z5 : AV := .agg [.vs [], .vs [], .vs [], .vs [], .vs []]
theorem Mc.view {c : Ctl} {q : Nms} {s : Sta} {H : HS} (h : Mc c q s H) {b : Nat} (hv : b <= q.iv) (ht : b <= q.it) {S : AS} (hk : ∀ j, b <= j -> j < H.next -> Am.look j S.heap = Am.look j H.heap) (d : Nat) : S.view (d + 2) (.agg [vsI s.en, vsB s.va, vsB s.inp, wvA s.vals q.iv q.sv, wtA true s.tms q.it q.tt]) = .agg (cS s) :=
 znm (fun d => zno (fun e => (hk _ hv (h.hv e).2.1).trans (h.hv e).1) d) (fun d => znn (fun e => (hk _ ht (h.ht e).2.1).trans (h.ht e).1) d)
-- pneumatic/settle.Settle
def ic8 : IC := sR [oM 2 (.box (.t 0)),
  oM 3 (.box (.t 1)),
  oM 4 (.alloc [.nils, .nils, .nils, .nils, .nils]),
  oM 5 (.mov (.c (.nils))),
  oM 6 (.mov (cI 0))]
 (sR [oL 12 5 2,
  oL 13 5 3,
  oM 14 (.call (.c (.fn 21 [] [])) [(.t 12), (.t 13)]),
  oT 11 14,
  oM 15 (.extract (.t 11) 0),
  oM 16 (.extract (.t 11) 1),
  oT 7 15,
  oT 8 16]
 (.seq (sR [oT 17 8,
  oM 18 (.bin .neq (.t 17) (cI 0))]
 (.cond (.t 18) (sR [oM 19 (.build [.nils, .nils, .nils, .nils, .nils] []),
  oT 20 8,
  ⟨none, .store 5 (.t 4) (.t 19), none⟩,
  oM 5 (.mov (.c (.nils))),
  oT 6 20]
 (.ret))
 (.skip)))
 (sR [oT 22 7,
  oM 23 (.call (.c (.fn 22 [] [])) [(.t 22)]),
  oT 21 23,
  oM 24 (.extract (.t 21) 0),
  oM 25 (.extract (.t 21) 1),
  oM 26 (.extract (.t 21) 2),
  oT 9 24,
  oT 10 25,
  oT 8 26]
 (.seq (sR [oT 27 8,
  oM 28 (.bin .neq (.t 27) (cI 0))]
 (.cond (.t 28) (sR [oM 29 (.build [.nils, .nils, .nils, .nils, .nils] []),
  oT 30 8,
  ⟨none, .store 5 (.t 4) (.t 29), none⟩,
  oM 5 (.mov (.c (.nils))),
  oT 6 30]
 (.ret))
 (.skip)))
 (sR [oT 31 7,
  oM 32 (.nilchk (.t 31)),
  oF 33 5 32,
  oL 34 5 33,
  oT 35 10,
  ⟨none, .store 5 (.t 4) (.t 34), none⟩,
  oT 5 35,
  oM 6 (.mov (cI 0))]
 (.ret))))))
theorem fn8 : env0.fn 8 = some ⟨36, ic8, [.cell 4 (some 5), .t 5, .t 6]⟩ := by kernel_rfl
set_option maxHeartbeats 8000000 in
set_option maxRecDepth 100000 in
theorem zqe {c : Ctl} {s : Sta} {v : AV} (h : Ct c) (hs : Ss c s) (hok : ∀ n, n <= 64 -> (∀ j, j < n -> itS c s (j + 1) ≠ itS c s j) -> itS c s (n + 1) = itS c s n -> v = .tup [.agg (cS (itS c s n)), vsI (badL c s (n + 1)), .int .i64 0]) (hbad : (∀ j, j <= 64 -> itS c s (j + 1) ≠ itS c s j) -> v = .tup [z5, .vs [], .int .i64 21]) : PF Tryz.prog 8 [.agg (cC c), .agg (cS s)] v := by
 refine za6 env0_ok fn8 [(0, .agg (cC c)), (1, .agg (cS s))] (y04 rfl) rfl fun w0 N0 => ?_;unfold ic8;refine zb4 ?_;refine zhh _ rfl rfl (zbk (of21 h hs ⟨_, _, _⟩)) (fun _ _ _ _ hm => absurd hm y0c) ?_;rintro _ ⟨hp, nx, ck⟩ ⟨q0, rfl, hM0, hk0, hm0, hv0, ht0⟩;obtain ⟨q, e1, e2, hM, ⟨b1, b2⟩, b3, b4⟩ := hM0.small hm0 hv0 ht0;rw [<- e1, <- e2];rw [<- e1] at hm0;have hnx : 3 <= nx := hk0.next;have hl2 : Am.look 2 hp = some (2, .cells zf1) := (hk0.look 2 (fun h => h) (y07 2)).trans rfl;have hl3 : 3 <= q.m := hm0;have b1 : 3 <= q.iv := b1;have b3 : 3 <= q.it := b3;refine zbh ?_;refine zhh _ rfl rfl (zbk (settle22 h hs ⟨hp, nx, ck⟩ hM b2 b4)) (fun _ _ _ _ hm => absurd hm y0c) ?_;rintro _ ⟨hp2, nx2, ck2⟩ (⟨n, w, hn, hne, heq, rfl, hM2, hW, hk2⟩ | ⟨hne, rfl, hk2⟩)
 ·rw [hok n hn hne heq];have hl2 : Am.look 2 hp2 = some (2, .cells zf1) := (hk2.look 2 (fun e => e.elim (by omega) (by omega)) (by show 2 < nx; omega)).trans hl2
  have hnx2 : nx <= nx2 := hk2.next;refine zbh ?_;refine zbp rfl hM2.hm hM2.lm rfl rfl ?_;repeat (first | refine zan rfl ?_)
  refine zaj rfl rfl rfl rfl hl2 rfl (by show ([vsI (itS c s n).en, vsB (itS c s n).va, vsB (itS c s n).inp, wvA (itS c s n).vals q.iv q.sv, wtA true (itS c s n).tms q.it q.tt] : List AV).all AV.isCell = true; simp only [y1s, y2l, zii, zig]; rfl) ?_
  refine zcj ?_;have hk4 : ∀ j, 3 <= j -> j < nx2 -> Am.look j (zap (0 + 1 + 1) (0 + 1 + 1, AObj.cells (setAt 0 zf1 (List.take 5 (List.drop (0 + 5) (mcC c (itS c s n) q))))) hp2) = Am.look j hp2 := fun j h1 _ => by rw [za0, if_neg (by omega)]
  refine zaa ⟨.inr rfl, _, res3 (zch 4) (zci (sp := 2) (cs := [vsI (itS c s n).en, vsB (itS c s n).va, vsB (itS c s n).inp, wvA (itS c s n).vals q.iv q.sv, wtA true (itS c s n).tms q.it q.tt]) (by show Am.look 2 (zap 2 _ hp2) = _; rw [za0, if_pos rfl]; rfl) (by show 2 < nx2; omega)) (y08 _) (zch 5) (zch 6), ?_⟩
  rw [show VD = (VD - 3) + 3 from rfl]
  show AV.tup [AS.view _ (VD - 3 + 2) (.agg [vsI (itS c s n).en, vsB (itS c s n).va, vsB (itS c s n).inp, wvA (itS c s n).vals q.iv q.sv, wtA true (itS c s n).tms q.it q.tt]), AS.view _ (VD - 3 + 1 + 1) w, .int .i64 0] = _;rw [hM2.view (b := 3) b1 b3 (fun j h1 h2 => hk4 j h1 h2), hW.view (fun j h1 h2 => hk4 j (by have : nx <= j := h1; omega) h2)]
 ·rw [hbad hne];have hl2 : Am.look 2 hp2 = some (2, .cells zf1) := (hk2.look 2 (fun e => e.elim (by omega) (by omega)) (by show 2 < nx; omega)).trans hl2
  refine zbh ?_;refine zaj rfl rfl rfl rfl hl2 rfl rfl ?_;refine zbu ?_;refine zaa ⟨.inr rfl, _, res3 (zch 4) (zci (sp := 2) (cs := zf1) (by show Am.look 2 (zap 2 _ hp2) = _; rw [za0, if_pos rfl]; rfl) (by have : nx <= nx2 := hk2.next; show 2 < nx2; omega)) (y08 _) (zch 5) (zch 6), rfl⟩
section
variable {n nx ck : Nat} {l : List (Nat × AV)} {hp : List (Nat × Nat × AObj)}
theorem zdn {sz bytes : Nat} {z : List AV} {s x : Arg} {xv : AV} (es : List (List AV)) {id sp : Nat} (hs : zar s l = some (.ms id sp sz 0 0 (some 0))) (hx : zar x l = some xv) (he : (st n l hp nx ck).elems sz xv = some es) (hne : es.length ≠ 0) (hc : es.flatten.all AV.isCell = true) (hb : bytes <= 16777216) (hlk : Am.look id hp = some (sp, .cells []))
  (h2 : es.length <= 1048576) : iop (st n l hp nx ck) (.append sz bytes z s x) = some (.ms nx ck sz 0 es.length none, st n l ((nx, ck, .cells es.flatten) :: hp) (nx + 1) (ck + 1)) := by
 simp only [iop, zag, hs, hx, he];unfold zbv;rw [if_neg hne, if_pos ⟨hc, hb⟩];simp only [show (st n l hp nx ck).heap = hp from rfl, hlk]
 rw [if_pos ⟨trivial, trivial, by simp, by omega⟩, if_neg (by omega)];simp only [y1b, y2n, List.take_zero, y1y];rfl
theorem zfw {sz bytes : Nat} {z : List AV} {s x : Arg} {id sp len : Nat} {cap : Option Nat} (hs : zar s l = some (.ms id sp sz 0 len cap)) (hx : zar x l = some (.vs [])) : iop (st n l hp nx ck) (.append sz bytes z s x) = some (.ms id sp sz 0 len cap, st n l hp nx ck) := by
 simp only [iop, zag, hs, hx];rfl
end
theorem zhc {d : Nat} {v w : AV} {l : List (Nat × AV)} (h : zah d l = some v) (e : v = w) : zah d l = some w := e ▸ h
theorem zfz {α : Type} (f : α -> AV) (hf : ∀ x, (f x).isCell = true) (q : List α) : (q.map fun b => ([f b] : List AV)).flatten.all AV.isCell = true := by
 rw [y0h];intro x hx;obtain ⟨e, he, hx⟩ := List.mem_flatten.1 hx;obtain ⟨y, _, rfl⟩ := y0p.1 he;obtain rfl := y0o.1 hx;exact hf y
def wL (len a b c d : Nat) : AV := if len = 0 then .ms a b 1 0 0 (some 0) else .ms c d 1 0 len none
theorem zcz (len a b c d : Nat) : (wL len a b c d).cells? = some [wL len a b c d] := by
 unfold wL;split <;> rfl
theorem zg5 (len a b c d : Nat) : (wL len a b c d).isCell = true := by
 unfold wL;split <;> rfl
theorem fill5x {va vb vc vd ve : AV} (ca : va.cells? = some [va]) (cb : vb.cells? = some [vb]) (cc : vc.cells? = some [vc]) (cd : vd.cells? = some [vd]) (ce : ve.cells? = some [ve]) : zbe zf1 [(0, va), (1, vb), (2, vc), (3, vd), (4, ve)] = some [va, vb, vc, vd, ve] := fill5 ca cb cc cd ce
def pres7 : List (List Nat) := [[], [], [1], [0, 2], [], [], [5], [4, 6, 3], [], [], [9], [8, 10, 7], [], [], [13], [12, 14, 11], [], [], [17], [16, 18, 15], [3, 7, 11, 15, 19], [20, 19, 0, 1, 2, 3, 4, 5, 6, 7, 8, 9, 10, 11, 12, 13, 14, 15, 16, 17, 18, 19, 20]]
def rg7 (b ck : Nat) (s : Sta) : RegC where
 m := 21
 dst := fun j => j + 3
 qv := fun j => match j with
  | 0 => .l
  | 1 => .c fun _ => .mptr b ck (0 + 0)
  | 2 => .c fun _ => vsI s.en
  | 3 => if s.en = [] then .c fun nm => .ms (nm 0 0) (nm 0 1) 1 0 0 (some 0) else .l
  | 4 => .l
  | 5 => .c fun _ => .mptr b ck (0 + 1)
  | 6 => .c fun _ => vsB s.va
  | 7 => if s.va = [] then .c fun nm => .ms (nm 4 0) (nm 4 1) 1 0 0 (some 0) else .l
  | 8 => .l
  | 9 => .c fun _ => .mptr b ck (0 + 2)
  | 10 => .c fun _ => vsB s.inp
  | 11 => if s.inp = [] then .c fun nm => .ms (nm 8 0) (nm 8 1) 1 0 0 (some 0) else .l
  | 12 => .l
  | 13 => .c fun _ => .mptr b ck (0 + 3)
  | 14 => .c fun _ => vsB s.vals
  | 15 => if s.vals = [] then .c fun nm => .ms (nm 12 0) (nm 12 1) 1 0 0 (some 0) else .l
  | 16 => .l
  | 17 => .c fun _ => .mptr b ck (0 + 4)
  | 18 => .c fun _ => vsI s.tms
  | 19 => if s.tms = [] then .c fun nm => .ms (nm 16 0) (nm 16 1) 1 0 0 (some 0) else .l
  | 20 => .c fun nm => .agg [(wL s.en.length (nm 0 0) (nm 0 1) (nm 3 0) (nm 3 1)), (wL s.va.length (nm 4 0) (nm 4 1) (nm 7 0) (nm 7 1)), (wL s.inp.length (nm 8 0) (nm 8 1) (nm 11 0) (nm 11 1)), (wL s.vals.length (nm 12 0) (nm 12 1) (nm 15 0) (nm 15 1)), (wL s.tms.length (nm 16 0) (nm 16 1) (nm 19 0) (nm 19 1))]
  | _ => .l
 lw := fun j x => match j with
  | 3 => .ms (x 0) (x 1) 1 0 (s.en.map fun x => ([AV.int .i64 x] : List AV)).length none
  | 7 => .ms (x 0) (x 1) 1 0 (s.va.map fun x => ([AV.bool x] : List AV)).length none
  | 11 => .ms (x 0) (x 1) 1 0 (s.inp.map fun x => ([AV.bool x] : List AV)).length none
  | 15 => .ms (x 0) (x 1) 1 0 (s.vals.map fun x => ([AV.bool x] : List AV)).length none
  | 19 => .ms (x 0) (x 1) 1 0 (s.tms.map fun x => ([AV.int .i64 x] : List AV)).length none
  | _ => .ms (x 0) (x 1) 1 0 0 (some 0)
 tl := fun j x hp lo hi => match j with
  | 3 => Am.look (x 0) hp = some (x 1, .cells (zC s.en)) /\ lo <= x 0 /\ x 0 < hi
  | 7 => Am.look (x 0) hp = some (x 1, .cells (bC s.va)) /\ lo <= x 0 /\ x 0 < hi
  | 11 => Am.look (x 0) hp = some (x 1, .cells (bC s.inp)) /\ lo <= x 0 /\ x 0 < hi
  | 15 => Am.look (x 0) hp = some (x 1, .cells (bC s.vals)) /\ lo <= x 0 /\ x 0 < hi
  | 19 => Am.look (x 0) hp = some (x 1, .cells (zC s.tms)) /\ lo <= x 0 /\ x 0 < hi
  | _ => Am.look (x 0) hp = some (x 1, .cells []) /\ lo <= x 0 /\ x 0 < hi
 st := fun j x hp hp' lo hi h hk => by
  revert h;split <;> exact fun h => ⟨(hk _ h.2.2).trans h.1, h.2⟩
theorem rok7 : zir 21 22 pres7 (fun j => j + 3) [1, 2] = true := by kernel_rfl
section
variable {bx sb : Nat} {s : Sta} {base : List (Nat × AV)} {b : Nat} {old : Nat -> Option (Nat × AObj)} {D : List Nat} {l : List (Nat × AV)} {hp : List (Nat × Nat × AObj)} {nx : Nat} {nm : Nat -> Nat -> Nat} {lo hi : Nat -> Nat}
theorem c7_0 (hK : KrC (rg7 bx sb s) base b old D l hp nx nm lo hi) (h : 3 ∈ D) : zah 6 l = some (wL s.en.length (nm 0 0) (nm 0 1) (nm 3 0) (nm 3 1)) := by
 unfold wL;by_cases hv : s.en = []
 ·rw [if_pos (by rw [hv]; rfl)];exact hK.q 3 _ h (if_pos hv)
 ·rw [if_neg fun e => hv (y0k.1 e)];have := hK.lv 3 h (if_neg hv);rw [show (rg7 bx sb s).lw 3 (nm 3) = .ms (nm 3 0) (nm 3 1) 1 0 (s.en.map fun x => ([AV.int .i64 x] : List AV)).length none from rfl, y06] at this
  exact this
theorem c7_1 (hK : KrC (rg7 bx sb s) base b old D l hp nx nm lo hi) (h : 7 ∈ D) : zah 10 l = some (wL s.va.length (nm 4 0) (nm 4 1) (nm 7 0) (nm 7 1)) := by
 unfold wL;by_cases hv : s.va = []
 ·rw [if_pos (by rw [hv]; rfl)];exact hK.q 7 _ h (if_pos hv)
 ·rw [if_neg fun e => hv (y0k.1 e)];have := hK.lv 7 h (if_neg hv);rw [show (rg7 bx sb s).lw 7 (nm 7) = .ms (nm 7 0) (nm 7 1) 1 0 (s.va.map fun x => ([AV.bool x] : List AV)).length none from rfl, y06] at this
  exact this
theorem c7_2 (hK : KrC (rg7 bx sb s) base b old D l hp nx nm lo hi) (h : 11 ∈ D) : zah 14 l = some (wL s.inp.length (nm 8 0) (nm 8 1) (nm 11 0) (nm 11 1)) := by
 unfold wL;by_cases hv : s.inp = []
 ·rw [if_pos (by rw [hv]; rfl)];exact hK.q 11 _ h (if_pos hv)
 ·rw [if_neg fun e => hv (y0k.1 e)];have := hK.lv 11 h (if_neg hv);rw [show (rg7 bx sb s).lw 11 (nm 11) = .ms (nm 11 0) (nm 11 1) 1 0 (s.inp.map fun x => ([AV.bool x] : List AV)).length none from rfl, y06] at this
  exact this
theorem c7_3 (hK : KrC (rg7 bx sb s) base b old D l hp nx nm lo hi) (h : 15 ∈ D) : zah 18 l = some (wL s.vals.length (nm 12 0) (nm 12 1) (nm 15 0) (nm 15 1)) := by
 unfold wL;by_cases hv : s.vals = []
 ·rw [if_pos (by rw [hv]; rfl)];exact hK.q 15 _ h (if_pos hv)
 ·rw [if_neg fun e => hv (y0k.1 e)];have := hK.lv 15 h (if_neg hv);rw [show (rg7 bx sb s).lw 15 (nm 15) = .ms (nm 15 0) (nm 15 1) 1 0 (s.vals.map fun x => ([AV.bool x] : List AV)).length none from rfl, y06] at this
  exact this
theorem c7_4 (hK : KrC (rg7 bx sb s) base b old D l hp nx nm lo hi) (h : 19 ∈ D) : zah 22 l = some (wL s.tms.length (nm 16 0) (nm 16 1) (nm 19 0) (nm 19 1)) := by
 unfold wL;by_cases hv : s.tms = []
 ·rw [if_pos (by rw [hv]; rfl)];exact hK.q 19 _ h (if_pos hv)
 ·rw [if_neg fun e => hv (y0k.1 e)];have := hK.lv 19 h (if_neg hv);rw [show (rg7 bx sb s).lw 19 (nm 19) = .ms (nm 19 0) (nm 19 1) 1 0 (s.tms.map fun x => ([AV.int .i64 x] : List AV)).length none from rfl, y06] at this
  exact this
end
structure OwL (cs : List AV) (b : Nat) (w : AV) (id sp : Nat) (H : HS) : Prop where
 w : ∃ cap, w = .ms id sp 1 0 cs.length cap
 lk : Am.look id H.heap = some (sp, .cells cs)
 lo : b <= id
 hi : id < H.next
structure C7 (s : Sta) (n t : Nat -> Nat) (w : Nat -> AV) (H H' : HS) : Prop where
 w0 : OwL (zC s.en) H.next (w 0) (n 0) (t 0) H'
 w1 : OwL (bC s.va) H.next (w 1) (n 1) (t 1) H'
 w2 : OwL (bC s.inp) H.next (w 2) (n 2) (t 2) H'
 w3 : OwL (bC s.vals) H.next (w 3) (n 3) (t 3) H'
 w4 : OwL (zC s.tms) H.next (w 4) (n 4) (t 4) H'
 ij : ∀ i j, i < 5 -> j < 5 -> n i = n j -> i = j
 kp : Kp (fun _ => False) H H'
theorem owl {cs : List AV} {b len a1 a2 a3 a4 : Nat} {H : HS} (hl : cs.length = len) (h0 : len = 0 -> Am.look a1 H.heap = some (a2, .cells []) /\ b <= a1 /\ a1 < H.next) (h1 : len ≠ 0 -> Am.look a3 H.heap = some (a4, .cells cs) /\ b <= a3 /\ a3 < H.next) : OwL cs b (wL len a1 a2 a3 a4) (if len = 0 then a1 else a3) (if len = 0 then a2 else a4) H := by
 subst hl;by_cases e : cs.length = 0
 ·have e2 := y0k.1 e;subst e2;exact ⟨⟨_, rfl⟩, (h0 rfl).1, (h0 rfl).2.1, (h0 rfl).2.2⟩
 ·unfold wL;rw [if_neg e, if_neg e, if_neg e];exact ⟨⟨_, rfl⟩, (h1 e).1, (h1 e).2.1, (h1 e).2.2⟩
-- pneumatic/pneumaticref27.Copy
def ic7 : IC := sR [oM 1 (.box (.t 0)),
  oM 2 (.alloc [.nils, .nils, .nils, .nils, .nils])]
 (.seq (.region [oM 3 (.bslice 1 0 [] []),
  oF 4 0 1,
  oN 5 4,
  oM 6 (.append 1 8 [.int .i64 0] (.t 3) (.t 5)),
  oM 7 (.bslice 1 0 [] []),
  oF 8 1 1,
  oN 9 8,
  oM 10 (.append 1 1 [.bool false] (.t 7) (.t 9)),
  oM 11 (.bslice 1 0 [] []),
  oF 12 2 1,
  oN 13 12,
  oM 14 (.append 1 1 [.bool false] (.t 11) (.t 13)),
  oM 15 (.bslice 1 0 [] []),
  oF 16 3 1,
  oN 17 16,
  oM 18 (.append 1 1 [.bool false] (.t 15) (.t 17)),
  oM 19 (.bslice 1 0 [] []),
  oF 20 4 1,
  oN 21 20,
  oM 22 (.append 1 8 [.int .i64 0] (.t 19) (.t 21)),
  oM 23 (.build [.nils, .nils, .nils, .nils, .nils] [(0, 1, (.t 6)), (1, 1, (.t 10)), (2, 1, (.t 14)), (3, 1, (.t 18)), (4, 1, (.t 22))]),
  ⟨none, .store 5 (.t 2) (.t 23), none⟩] (some [[], [], [1], [0, 2], [], [], [5], [4, 6, 3], [], [], [9], [8, 10, 7], [], [], [13], [12, 14, 11], [], [], [17], [16, 18, 15], [3, 7, 11, 15, 19], [20, 19, 0, 1, 2, 3, 4, 5, 6, 7, 8, 9, 10, 11, 12, 13, 14, 15, 16, 17, 18, 19, 20]]))
 (.ret))
theorem fn7 : env0.fn 7 = some ⟨24, ic7, [.cell 2 (some 5)]⟩ := by kernel_rfl
set_option maxHeartbeats 4000000 in
set_option maxRecDepth 100000 in
theorem copy7 {w0 : World} {N0 : Nat} {s : Sta} (hs : Shs s) (H : HS) :
  FT Tryz.prog w0 N0 7 [.agg (cS s)] H (fun v H' => ∃ (n t : Nat -> Nat) (w : Nat -> AV), v = .agg [w 0, w 1, w 2, w 3, w 4] /\ C7 s n t w H H') := by
 obtain ⟨hp, nx, ck⟩ := H;refine zbl env0_ok fn7 [(0, .agg (cS s))] (y04 rfl) rfl ?_;unfold ic7;refine zsr rfl (zd6 rfl rfl (zce (onu ?_)));have hlb : Am.look nx ((nx + 1, ck + 1, AObj.cells zf1) :: (nx, ck, .cells (cS s)) :: hp) = some (ck, .cells (cS s)) := (za5 (y07 _)).trans za3;have hlr : Am.look (nx + 1) ((nx + 1, ck + 1, AObj.cells zf1) :: (nx, ck, .cells (cS s)) :: hp) = some (ck + 1, .cells zf1) := za3;have hold : ∀ j, j < nx -> Am.look j ((nx + 1, ck + 1, AObj.cells zf1) :: (nx, ck, .cells (cS s)) :: hp) = Am.look j hp := fun j hj => (za5 (by show j < nx + 1; omega)).trans (za5 hj)
 show Zm _ _ _ _ _ (st 24 [(2, .mptr (nx + 1) (ck + 1) 0), (1, .mptr nx ck 0), (0, _)] ((nx + 1, ck + 1, AObj.cells zf1) :: (nx, ck, .cells (cS s)) :: hp) _ _) _ _;generalize ((nx + 1, ck + 1, AObj.cells zf1) :: (nx, ck, .cells (cS s)) :: hp) = hp1 at *;refine zb5 (zpd env0_ok.mix fun rd => ?_);have hbx : nx < nx + 1 + 1 := by omega
 refine zg6 (rg7 nx ck s) [(1, .mptr nx ck 0), (2, .mptr (nx + 1) (ck + 1) 0)] (fun j S => ∃ l hp nx3 ck3, ∃ (n t : Nat -> Nat) (w : Nat -> AV), S = st 24 l hp nx3 ck3 /\ zah 2 l = some (.mptr (nx + 1) (ck + 1) 0) /\ nx + 1 < nx3 /\ (∀ j, j < nx -> Am.look j hp = Am.look j hp1) /\ (∀ i, i < 5 -> nx + 1 < n i /\ (w i).cells? = some [w i] /\ (w i).isCell = true) /\ (j = 21 -> Am.look (nx + 1) hp = some (ck + 1, .cells zf1) /\ zah 23 l = some (.agg [w 0, w 1, w 2, w 3, w 4])) /\ (j = 22 -> Am.look (nx + 1) hp = some (ck + 1, .cells [w 0, w 1, w 2, w 3, w 4])) /\
   (OwL (zC s.en) nx (w 0) (n 0) (t 0) ⟨hp, nx3, ck3⟩ /\ OwL (bC s.va) nx (w 1) (n 1) (t 1) ⟨hp, nx3, ck3⟩ /\ OwL (bC s.inp) nx (w 2) (n 2) (t 2) ⟨hp, nx3, ck3⟩ /\ OwL (bC s.vals) nx (w 3) (n 3) (t 3) ⟨hp, nx3, ck3⟩ /\ OwL (zC s.tms) nx (w 4) (n 4) (t 4) ⟨hp, nx3, ck3⟩) /\ (∀ i j, i < 5 -> j < 5 -> n i = n j -> i = j)) 22 rfl rok7 ?_ ?_ ?_ ?_ ?_ ?_
 ·intro t v ht;rcases y0f.1 ht with e | ht
  ·cases e; rfl
  ·cases y0o.1 ht; rfl
 ·intro j f e nm nm' hp;unfold rg7 at e;dsimp only at e;split at e;all_goals first
   | (cases e; rfl)
   | (cases e; done)
   | (
     split at e
     ·cases e;dsimp only;first | rw [hp 0 (by decide)] | rw [hp 4 (by decide)] | rw [hp 8 (by decide)] | rw [hp 12 (by decide)] | rw [hp 16 (by decide)]
     ·cases e)
   | (
     cases e;dsimp only;rw [hp 0 (by decide), hp 3 (by decide), hp 4 (by decide), hp 7 (by decide), hp 8 (by decide), hp 11 (by decide), hp 12 (by decide), hp 15 (by decide), hp 16 (by decide), hp 19 (by decide)])
 ·intro j hj n1 D l hp' nx' ck' nm lo hi hK hp;have hj : j < 21 := hj
  match j, hj with
   | 0, _ => exact fun go => za9 rfl rfl (zg9 rfl rfl) (go (fun j => match j with | 0 => nx' | _ => ck') _ _ _ (y0y _) (fun j hj => za5 hj) ⟨za3, y08 _, y07 _⟩)
   | 1, _ => exact fun go => za9 rfl rfl (zat (hK.bs 1 _ (y01 ..))) go
   | 2, _ => exact fun go => za9 rfl rfl (zba (hK.q 1 _ (hp 1 (y01 ..)) rfl) ((hK.ol _ hbx).trans hlb) (y09 hbx hK.bx) rfl) go
   | 3, _ => 
    have h0 := hp 0 (y01 ..);have hlw := hK.lv 0 h0 rfl;have htl := hK.lh 0 h0 rfl;by_cases hv : s.en = []
    ·rw [show (rg7 nx ck s).qv 3 = .c (fun nm => .ms (nm 0 0) (nm 0 1) 1 0 0 (some 0)) from if_pos hv]
     exact fun go => za9 rfl rfl (zfw hlw (zhc (hK.q 2 _ (hp 2 (me 1 rfl)) rfl) (by rw [hv]; rfl))) go
    ·rw [show (rg7 nx ck s).qv 3 = .l from if_neg hv]
     exact fun go => za9 rfl rfl (zdn (s.en.map fun x => [AV.int .i64 x]) hlw (hK.q 2 _ (hp 2 (me 1 rfl)) rfl) (zcu fun y hy => by obtain ⟨_, _, rfl⟩ := y0p.1 hy; rfl) (by rw [y06]; exact fun e => hv (y0k.1 e)) (zfz _ (fun _ => rfl) _) (by decide) htl.1.1 (by rw [y06]; have := hs.e; omega)) (go (fun j => match j with | 0 => nx' | _ => ck') _ _ _ (y0y _) (fun j hj => za5 hj) ⟨by rw [zbi]; exact za3, y08 _, y07 _⟩)
   | 4, _ => exact fun go => za9 rfl rfl (zg9 rfl rfl) (go (fun j => match j with | 0 => nx' | _ => ck') _ _ _ (y0y _) (fun j hj => za5 hj) ⟨za3, y08 _, y07 _⟩)
   | 5, _ => exact fun go => za9 rfl rfl (zat (hK.bs 1 _ (y01 ..))) go
   | 6, _ => exact fun go => za9 rfl rfl (zba (hK.q 5 _ (hp 5 (y01 ..)) rfl) ((hK.ol _ hbx).trans hlb) (y09 hbx hK.bx) rfl) go
   | 7, _ => 
    have h0 := hp 4 (y01 ..);have hlw := hK.lv 4 h0 rfl;have htl := hK.lh 4 h0 rfl;by_cases hv : s.va = []
    ·rw [show (rg7 nx ck s).qv 7 = .c (fun nm => .ms (nm 4 0) (nm 4 1) 1 0 0 (some 0)) from if_pos hv]
     exact fun go => za9 rfl rfl (zfw hlw (zhc (hK.q 6 _ (hp 6 (me 1 rfl)) rfl) (by rw [hv]; rfl))) go
    ·rw [show (rg7 nx ck s).qv 7 = .l from if_neg hv]
     exact fun go => za9 rfl rfl (zdn (s.va.map fun x => [AV.bool x]) hlw (hK.q 6 _ (hp 6 (me 1 rfl)) rfl) (zcu fun y hy => by obtain ⟨_, _, rfl⟩ := y0p.1 hy; rfl) (by rw [y06]; exact fun e => hv (y0k.1 e)) (zfz _ (fun _ => rfl) _) (by decide) htl.1.1 (by rw [y06]; have := hs.v; omega)) (go (fun j => match j with | 0 => nx' | _ => ck') _ _ _ (y0y _) (fun j hj => za5 hj) ⟨by rw [zbi]; exact za3, y08 _, y07 _⟩)
   | 8, _ => exact fun go => za9 rfl rfl (zg9 rfl rfl) (go (fun j => match j with | 0 => nx' | _ => ck') _ _ _ (y0y _) (fun j hj => za5 hj) ⟨za3, y08 _, y07 _⟩)
   | 9, _ => exact fun go => za9 rfl rfl (zat (hK.bs 1 _ (y01 ..))) go
   | 10, _ => exact fun go => za9 rfl rfl (zba (hK.q 9 _ (hp 9 (y01 ..)) rfl) ((hK.ol _ hbx).trans hlb) (y09 hbx hK.bx) rfl) go
   | 11, _ => 
    have h0 := hp 8 (y01 ..);have hlw := hK.lv 8 h0 rfl;have htl := hK.lh 8 h0 rfl;by_cases hv : s.inp = []
    ·rw [show (rg7 nx ck s).qv 11 = .c (fun nm => .ms (nm 8 0) (nm 8 1) 1 0 0 (some 0)) from if_pos hv]
     exact fun go => za9 rfl rfl (zfw hlw (zhc (hK.q 10 _ (hp 10 (me 1 rfl)) rfl) (by rw [hv]; rfl))) go
    ·rw [show (rg7 nx ck s).qv 11 = .l from if_neg hv]
     exact fun go => za9 rfl rfl (zdn (s.inp.map fun x => [AV.bool x]) hlw (hK.q 10 _ (hp 10 (me 1 rfl)) rfl) (zcu fun y hy => by obtain ⟨_, _, rfl⟩ := y0p.1 hy; rfl) (by rw [y06]; exact fun e => hv (y0k.1 e)) (zfz _ (fun _ => rfl) _) (by decide) htl.1.1 (by rw [y06]; have := hs.i; omega)) (go (fun j => match j with | 0 => nx' | _ => ck') _ _ _ (y0y _) (fun j hj => za5 hj) ⟨by rw [zbi]; exact za3, y08 _, y07 _⟩)
   | 12, _ => exact fun go => za9 rfl rfl (zg9 rfl rfl) (go (fun j => match j with | 0 => nx' | _ => ck') _ _ _ (y0y _) (fun j hj => za5 hj) ⟨za3, y08 _, y07 _⟩)
   | 13, _ => exact fun go => za9 rfl rfl (zat (hK.bs 1 _ (y01 ..))) go
   | 14, _ => exact fun go => za9 rfl rfl (zba (hK.q 13 _ (hp 13 (y01 ..)) rfl) ((hK.ol _ hbx).trans hlb) (y09 hbx hK.bx) rfl) go
   | 15, _ => 
    have h0 := hp 12 (y01 ..);have hlw := hK.lv 12 h0 rfl;have htl := hK.lh 12 h0 rfl;by_cases hv : s.vals = []
    ·rw [show (rg7 nx ck s).qv 15 = .c (fun nm => .ms (nm 12 0) (nm 12 1) 1 0 0 (some 0)) from if_pos hv]
     exact fun go => za9 rfl rfl (zfw hlw (zhc (hK.q 14 _ (hp 14 (me 1 rfl)) rfl) (by rw [hv]; rfl))) go
    ·rw [show (rg7 nx ck s).qv 15 = .l from if_neg hv]
     exact fun go => za9 rfl rfl (zdn (s.vals.map fun x => [AV.bool x]) hlw (hK.q 14 _ (hp 14 (me 1 rfl)) rfl) (zcu fun y hy => by obtain ⟨_, _, rfl⟩ := y0p.1 hy; rfl) (by rw [y06]; exact fun e => hv (y0k.1 e)) (zfz _ (fun _ => rfl) _) (by decide) htl.1.1 (by rw [y06]; have := hs.b; omega)) (go (fun j => match j with | 0 => nx' | _ => ck') _ _ _ (y0y _) (fun j hj => za5 hj) ⟨by rw [zbi]; exact za3, y08 _, y07 _⟩)
   | 16, _ => exact fun go => za9 rfl rfl (zg9 rfl rfl) (go (fun j => match j with | 0 => nx' | _ => ck') _ _ _ (y0y _) (fun j hj => za5 hj) ⟨za3, y08 _, y07 _⟩)
   | 17, _ => exact fun go => za9 rfl rfl (zat (hK.bs 1 _ (y01 ..))) go
   | 18, _ => exact fun go => za9 rfl rfl (zba (hK.q 17 _ (hp 17 (y01 ..)) rfl) ((hK.ol _ hbx).trans hlb) (y09 hbx hK.bx) rfl) go
   | 19, _ => 
    have h0 := hp 16 (y01 ..);have hlw := hK.lv 16 h0 rfl;have htl := hK.lh 16 h0 rfl;by_cases hv : s.tms = []
    ·rw [show (rg7 nx ck s).qv 19 = .c (fun nm => .ms (nm 16 0) (nm 16 1) 1 0 0 (some 0)) from if_pos hv]
     exact fun go => za9 rfl rfl (zfw hlw (zhc (hK.q 18 _ (hp 18 (me 1 rfl)) rfl) (by rw [hv]; rfl))) go
    ·rw [show (rg7 nx ck s).qv 19 = .l from if_neg hv]
     exact fun go => za9 rfl rfl (zdn (s.tms.map fun x => [AV.int .i64 x]) hlw (hK.q 18 _ (hp 18 (me 1 rfl)) rfl) (zcu fun y hy => by obtain ⟨_, _, rfl⟩ := y0p.1 hy; rfl) (by rw [y06]; exact fun e => hv (y0k.1 e)) (zfz _ (fun _ => rfl) _) (by decide) htl.1.1 (by rw [y06]; have := hs.t; omega)) (go (fun j => match j with | 0 => nx' | _ => ck') _ _ _ (y0y _) (fun j hj => za5 hj) ⟨by rw [zbi]; exact za3, y08 _, y07 _⟩)
   | 20, _ => exact fun go => za9 rfl rfl (zi0 (zq5 (c7_0 hK (hp 3 (y01 ..))) (c7_1 hK (hp 7 (me 1 rfl))) (c7_2 hK (hp 11 (me 2 rfl))) (c7_3 hK (hp 15 (me 3 rfl))) (c7_4 hK (hp 19 (me 4 rfl))) (zcz _ _ _ _ _) (zcz _ _ _ _ _) (zcz _ _ _ _ _) (zcz _ _ _ _ _) (zcz _ _ _ _ _)) (fill5x (zcz _ _ _ _ _) (zcz _ _ _ _ _) (zcz _ _ _ _ _) (zcz _ _ _ _ _) (zcz _ _ _ _ _))) go
   | j + 21, h => exact absurd h (by omega)
 ·intro l hp' nx' ck' nm lo hi hK;have m : ∀ j, j < 21 -> j ∈ List.range 21 := fun j hj => y0m.2 hj;have hb : ∀ j, (rg7 nx ck s).qv j = .l -> j < 21 -> nx + 1 < lo j /\ hi j <= nx' := fun j hj h => by
   have := (hK.lh j (m j h) hj).2;exact ⟨this.1, this.2⟩
  have f0a := hK.lh 0 (m 0 (by decide)) rfl;have f0b := fun e : s.en ≠ [] => hK.lh 3 (m 3 (by decide)) (if_neg e);have e0a : Am.look (nm 0 0) hp' = some (nm 0 1, .cells []) /\ lo 0 <= nm 0 0 /\ nm 0 0 < hi 0 := f0a.1;have e0b : s.en ≠ [] -> Am.look (nm 3 0) hp' = some (nm 3 1, .cells (zC s.en)) /\ lo 3 <= nm 3 0 /\ nm 3 0 < hi 3 := fun e => (f0b e).1;have b0a : nx + 1 + 1 <= lo 0 /\ hi 0 <= nx' := f0a.2;have b0b : s.en ≠ [] -> nx + 1 + 1 <= lo 3 /\ hi 3 <= nx' := fun e => (f0b e).2;have z0 : s.en.length = 0 ↔ s.en = [] := y0k;have o0 : OwL (zC s.en) nx (wL s.en.length (nm 0 0) (nm 0 1) (nm 3 0) (nm 3 1)) (if s.en.length = 0 then nm 0 0 else nm 3 0) (if s.en.length = 0 then nm 0 1 else nm 3 1) ⟨hp', nx', ck'⟩ := owl (y06 _) (fun _ => ⟨e0a.1, by have := e0a.2.1; omega, by have := e0a.2.2; show nm 0 0 < nx'; omega⟩) fun e => by
   have e := fun h => e (z0.2 h);exact ⟨(e0b e).1, by have := (e0b e).2.1; have := (b0b e).1; omega, by have := (e0b e).2.2; have := (b0b e).2; show nm 3 0 < nx'; omega⟩
  have r0 : ∃ j, (j = 0 \/ j = 3) /\ (rg7 nx ck s).qv j = .l /\ lo j <= (if s.en.length = 0 then nm 0 0 else nm 3 0) /\ (if s.en.length = 0 then nm 0 0 else nm 3 0) < hi j := by
   by_cases e : s.en = []
   ·rw [if_pos (z0.2 e)];exact ⟨0, .inl rfl, rfl, e0a.2⟩
   ·rw [if_neg (fun h => e (z0.1 h))];exact ⟨3, .inr rfl, if_neg e, (e0b e).2⟩
  have f1a := hK.lh 4 (m 4 (by decide)) rfl;have f1b := fun e : s.va ≠ [] => hK.lh 7 (m 7 (by decide)) (if_neg e);have e1a : Am.look (nm 4 0) hp' = some (nm 4 1, .cells []) /\ lo 4 <= nm 4 0 /\ nm 4 0 < hi 4 := f1a.1;have e1b : s.va ≠ [] -> Am.look (nm 7 0) hp' = some (nm 7 1, .cells (bC s.va)) /\ lo 7 <= nm 7 0 /\ nm 7 0 < hi 7 := fun e => (f1b e).1;have b1a : nx + 1 + 1 <= lo 4 /\ hi 4 <= nx' := f1a.2;have b1b : s.va ≠ [] -> nx + 1 + 1 <= lo 7 /\ hi 7 <= nx' := fun e => (f1b e).2;have z1 : s.va.length = 0 ↔ s.va = [] := y0k;have o1 : OwL (bC s.va) nx (wL s.va.length (nm 4 0) (nm 4 1) (nm 7 0) (nm 7 1)) (if s.va.length = 0 then nm 4 0 else nm 7 0) (if s.va.length = 0 then nm 4 1 else nm 7 1) ⟨hp', nx', ck'⟩ := owl (y06 _) (fun _ => ⟨e1a.1, by have := e1a.2.1; omega, by have := e1a.2.2; show nm 4 0 < nx'; omega⟩) fun e => by
   have e := fun h => e (z1.2 h);exact ⟨(e1b e).1, by have := (e1b e).2.1; have := (b1b e).1; omega, by have := (e1b e).2.2; have := (b1b e).2; show nm 7 0 < nx'; omega⟩
  have r1 : ∃ j, (j = 4 \/ j = 7) /\ (rg7 nx ck s).qv j = .l /\ lo j <= (if s.va.length = 0 then nm 4 0 else nm 7 0) /\ (if s.va.length = 0 then nm 4 0 else nm 7 0) < hi j := by
   by_cases e : s.va = []
   ·rw [if_pos (z1.2 e)];exact ⟨4, .inl rfl, rfl, e1a.2⟩
   ·rw [if_neg (fun h => e (z1.1 h))];exact ⟨7, .inr rfl, if_neg e, (e1b e).2⟩
  have f2a := hK.lh 8 (m 8 (by decide)) rfl;have f2b := fun e : s.inp ≠ [] => hK.lh 11 (m 11 (by decide)) (if_neg e);have e2a : Am.look (nm 8 0) hp' = some (nm 8 1, .cells []) /\ lo 8 <= nm 8 0 /\ nm 8 0 < hi 8 := f2a.1;have e2b : s.inp ≠ [] -> Am.look (nm 11 0) hp' = some (nm 11 1, .cells (bC s.inp)) /\ lo 11 <= nm 11 0 /\ nm 11 0 < hi 11 := fun e => (f2b e).1;have b2a : nx + 1 + 1 <= lo 8 /\ hi 8 <= nx' := f2a.2;have b2b : s.inp ≠ [] -> nx + 1 + 1 <= lo 11 /\ hi 11 <= nx' := fun e => (f2b e).2;have z2 : s.inp.length = 0 ↔ s.inp = [] := y0k;have o2 : OwL (bC s.inp) nx (wL s.inp.length (nm 8 0) (nm 8 1) (nm 11 0) (nm 11 1)) (if s.inp.length = 0 then nm 8 0 else nm 11 0) (if s.inp.length = 0 then nm 8 1 else nm 11 1) ⟨hp', nx', ck'⟩ := owl (y06 _) (fun _ => ⟨e2a.1, by have := e2a.2.1; omega, by have := e2a.2.2; show nm 8 0 < nx'; omega⟩) fun e => by
   have e := fun h => e (z2.2 h);exact ⟨(e2b e).1, by have := (e2b e).2.1; have := (b2b e).1; omega, by have := (e2b e).2.2; have := (b2b e).2; show nm 11 0 < nx'; omega⟩
  have r2 : ∃ j, (j = 8 \/ j = 11) /\ (rg7 nx ck s).qv j = .l /\ lo j <= (if s.inp.length = 0 then nm 8 0 else nm 11 0) /\ (if s.inp.length = 0 then nm 8 0 else nm 11 0) < hi j := by
   by_cases e : s.inp = []
   ·rw [if_pos (z2.2 e)];exact ⟨8, .inl rfl, rfl, e2a.2⟩
   ·rw [if_neg (fun h => e (z2.1 h))];exact ⟨11, .inr rfl, if_neg e, (e2b e).2⟩
  have f3a := hK.lh 12 (m 12 (by decide)) rfl;have f3b := fun e : s.vals ≠ [] => hK.lh 15 (m 15 (by decide)) (if_neg e);have e3a : Am.look (nm 12 0) hp' = some (nm 12 1, .cells []) /\ lo 12 <= nm 12 0 /\ nm 12 0 < hi 12 := f3a.1;have e3b : s.vals ≠ [] -> Am.look (nm 15 0) hp' = some (nm 15 1, .cells (bC s.vals)) /\ lo 15 <= nm 15 0 /\ nm 15 0 < hi 15 := fun e => (f3b e).1;have b3a : nx + 1 + 1 <= lo 12 /\ hi 12 <= nx' := f3a.2;have b3b : s.vals ≠ [] -> nx + 1 + 1 <= lo 15 /\ hi 15 <= nx' := fun e => (f3b e).2;have z3 : s.vals.length = 0 ↔ s.vals = [] := y0k;have o3 : OwL (bC s.vals) nx (wL s.vals.length (nm 12 0) (nm 12 1) (nm 15 0) (nm 15 1)) (if s.vals.length = 0 then nm 12 0 else nm 15 0) (if s.vals.length = 0 then nm 12 1 else nm 15 1) ⟨hp', nx', ck'⟩ := owl (y06 _) (fun _ => ⟨e3a.1, by have := e3a.2.1; omega, by have := e3a.2.2; show nm 12 0 < nx'; omega⟩) fun e => by
   have e := fun h => e (z3.2 h);exact ⟨(e3b e).1, by have := (e3b e).2.1; have := (b3b e).1; omega, by have := (e3b e).2.2; have := (b3b e).2; show nm 15 0 < nx'; omega⟩
  have r3 : ∃ j, (j = 12 \/ j = 15) /\ (rg7 nx ck s).qv j = .l /\ lo j <= (if s.vals.length = 0 then nm 12 0 else nm 15 0) /\ (if s.vals.length = 0 then nm 12 0 else nm 15 0) < hi j := by
   by_cases e : s.vals = []
   ·rw [if_pos (z3.2 e)];exact ⟨12, .inl rfl, rfl, e3a.2⟩
   ·rw [if_neg (fun h => e (z3.1 h))];exact ⟨15, .inr rfl, if_neg e, (e3b e).2⟩
  have f4a := hK.lh 16 (m 16 (by decide)) rfl;have f4b := fun e : s.tms ≠ [] => hK.lh 19 (m 19 (by decide)) (if_neg e);have e4a : Am.look (nm 16 0) hp' = some (nm 16 1, .cells []) /\ lo 16 <= nm 16 0 /\ nm 16 0 < hi 16 := f4a.1;have e4b : s.tms ≠ [] -> Am.look (nm 19 0) hp' = some (nm 19 1, .cells (zC s.tms)) /\ lo 19 <= nm 19 0 /\ nm 19 0 < hi 19 := fun e => (f4b e).1;have b4a : nx + 1 + 1 <= lo 16 /\ hi 16 <= nx' := f4a.2;have b4b : s.tms ≠ [] -> nx + 1 + 1 <= lo 19 /\ hi 19 <= nx' := fun e => (f4b e).2;have z4 : s.tms.length = 0 ↔ s.tms = [] := y0k;have o4 : OwL (zC s.tms) nx (wL s.tms.length (nm 16 0) (nm 16 1) (nm 19 0) (nm 19 1)) (if s.tms.length = 0 then nm 16 0 else nm 19 0) (if s.tms.length = 0 then nm 16 1 else nm 19 1) ⟨hp', nx', ck'⟩ := owl (y06 _) (fun _ => ⟨e4a.1, by have := e4a.2.1; omega, by have := e4a.2.2; show nm 16 0 < nx'; omega⟩) fun e => by
   have e := fun h => e (z4.2 h);exact ⟨(e4b e).1, by have := (e4b e).2.1; have := (b4b e).1; omega, by have := (e4b e).2.2; have := (b4b e).2; show nm 19 0 < nx'; omega⟩
  have r4 : ∃ j, (j = 16 \/ j = 19) /\ (rg7 nx ck s).qv j = .l /\ lo j <= (if s.tms.length = 0 then nm 16 0 else nm 19 0) /\ (if s.tms.length = 0 then nm 16 0 else nm 19 0) < hi j := by
   by_cases e : s.tms = []
   ·rw [if_pos (z4.2 e)];exact ⟨16, .inl rfl, rfl, e4a.2⟩
   ·rw [if_neg (fun h => e (z4.1 h))];exact ⟨19, .inr rfl, if_neg e, (e4b e).2⟩
  have hall : ∀ g, g < 5 -> ∃ j, j < 21 /\ j / 4 = g /\ (rg7 nx ck s).qv j = .l /\ lo j <= (fun g => match g with | 0 => if s.en.length = 0 then nm 0 0 else nm 3 0 | 1 => if s.va.length = 0 then nm 4 0 else nm 7 0 | 2 => if s.inp.length = 0 then nm 8 0 else nm 11 0 | 3 => if s.vals.length = 0 then nm 12 0 else nm 15 0 | _ => if s.tms.length = 0 then nm 16 0 else nm 19 0 : Nat -> Nat) g /\ (fun g => match g with | 0 => if s.en.length = 0 then nm 0 0 else nm 3 0 | 1 => if s.va.length = 0 then nm 4 0 else nm 7 0 | 2 => if s.inp.length = 0 then nm 8 0 else nm 11 0 | 3 => if s.vals.length = 0 then nm 12 0 else nm 15 0 | _ => if s.tms.length = 0 then nm 16 0 else nm 19 0 : Nat -> Nat) g < hi j := fun g hg => by
   match g, hg with
   | 0, _ =>
    obtain ⟨j, hj, a1, a2⟩ := r0;exact ⟨j, by rcases hj with rfl | rfl <;> decide, by rcases hj with rfl | rfl <;> rfl, a1, a2⟩
   | 1, _ =>
    obtain ⟨j, hj, a1, a2⟩ := r1;exact ⟨j, by rcases hj with rfl | rfl <;> decide, by rcases hj with rfl | rfl <;> rfl, a1, a2⟩
   | 2, _ =>
    obtain ⟨j, hj, a1, a2⟩ := r2;exact ⟨j, by rcases hj with rfl | rfl <;> decide, by rcases hj with rfl | rfl <;> rfl, a1, a2⟩
   | 3, _ =>
    obtain ⟨j, hj, a1, a2⟩ := r3;exact ⟨j, by rcases hj with rfl | rfl <;> decide, by rcases hj with rfl | rfl <;> rfl, a1, a2⟩
   | 4, _ =>
    obtain ⟨j, hj, a1, a2⟩ := r4;exact ⟨j, by rcases hj with rfl | rfl <;> decide, by rcases hj with rfl | rfl <;> rfl, a1, a2⟩
  refine ⟨l, hp', nx', ck', fun g => match g with | 0 => if s.en.length = 0 then nm 0 0 else nm 3 0 | 1 => if s.va.length = 0 then nm 4 0 else nm 7 0 | 2 => if s.inp.length = 0 then nm 8 0 else nm 11 0 | 3 => if s.vals.length = 0 then nm 12 0 else nm 15 0 | _ => if s.tms.length = 0 then nm 16 0 else nm 19 0, fun g => match g with | 0 => if s.en.length = 0 then nm 0 1 else nm 3 1 | 1 => if s.va.length = 0 then nm 4 1 else nm 7 1 | 2 => if s.inp.length = 0 then nm 8 1 else nm 11 1 | 3 => if s.vals.length = 0 then nm 12 1 else nm 15 1 | _ => if s.tms.length = 0 then nm 16 1 else nm 19 1, fun g => match g with | 0 => (wL s.en.length (nm 0 0) (nm 0 1) (nm 3 0) (nm 3 1)) | 1 => (wL s.va.length (nm 4 0) (nm 4 1) (nm 7 0) (nm 7 1)) | 2 => (wL s.inp.length (nm 8 0) (nm 8 1) (nm 11 0) (nm 11 1)) | 3 => (wL s.vals.length (nm 12 0) (nm 12 1) (nm 15 0) (nm 15 1)) | _ => (wL s.tms.length (nm 16 0) (nm 16 1) (nm 19 0) (nm 19 1)), rfl, hK.bs 2 _ (me 1 rfl), hK.bx, fun j hj => hK.ol j (by show j < nx + 1 + 1; omega), fun g hg => ?_, fun _ => ⟨(hK.ol _ (y07 _)).trans hlr, hK.q 20 _ (m 20 (by decide)) rfl⟩, fun h => absurd h (by show ¬ 21 = 22; decide), ⟨o0, o1, o2, o3, o4⟩, fun i j hi hj e => ?_⟩
  ·refine ⟨?_, ?_, ?_⟩
   ·obtain ⟨j, hj, _, a1, a2, a3⟩ := hall g hg;have := (hb j a1 hj).1;omega
   ·match g, hg with
    | 0, _ => exact zcz ..
    | 1, _ => exact zcz ..
    | 2, _ => exact zcz ..
    | 3, _ => exact zcz ..
    | 4, _ => exact zcz ..
   ·match g, hg with
    | 0, _ => exact zg5 ..
    | 1, _ => exact zg5 ..
    | 2, _ => exact zg5 ..
    | 3, _ => exact zg5 ..
    | 4, _ => exact zg5 ..
  ·obtain ⟨a, ha, ea, a1, a2, a3⟩ := hall i hi;obtain ⟨b, hb, eb, b1, b2, b3⟩ := hall j hj;by_cases hab : a = b
   ·omega
   ·have := hK.ij a b (m a ha) (m b hb) a1 b1 hab;omega
 ·rintro j h1 h2 S ⟨l, hp', nx3, ck3, n, t, w, rfl, a2, hn3, ho, hw, k5, _, ⟨o0, o1, o2, o3, o4⟩, hij⟩ m1 D go;have h1 : 21 <= j := h1;obtain rfl : j = 21 := by omega
  obtain ⟨k5, q5⟩ := k5 rfl;have hop : ∀ {cs : List AV} {i : Nat}, i < 5 -> OwL cs nx (w i) (n i) (t i) ⟨hp', nx3, ck3⟩ -> OwL cs nx (w i) (n i) (t i) ⟨zap (nx + 1) (ck + 1, .cells (setAt 0 zf1 [w 0, w 1, w 2, w 3, w 4])) hp', nx3, ck3⟩ := fun {cs i} hi o => ⟨o.w, by show Am.look _ (zap _ _ _) = _; rw [za0, if_neg (by have := (hw i hi).1; omega)]; exact o.lk, o.lo, o.hi⟩
  refine zik rfl (zf8 a2 q5 rfl rfl k5 rfl ?_) (go _ ⟨l, _, _, _, n, t, w, rfl, a2, hn3, fun j hj => ?_, hw, fun h => absurd h (by decide), fun _ => ?_, ⟨hop (by decide) o0, hop (by decide) o1, hop (by decide) o2, hop (by decide) o3, hop (by decide) o4⟩, hij⟩)
  ·show ([w 0, w 1, w 2, w 3, w 4] : List AV).all AV.isCell = true;simp only [y1s, y2l, (hw 0 (by decide)).2.2, (hw 1 (by decide)).2.2, (hw 2 (by decide)).2.2, (hw 3 (by decide)).2.2, (hw 4 (by decide)).2.2];rfl
  ·rw [za0, if_neg (by omega)]; exact ho j hj
  ·rw [za0, if_pos rfl]; rfl
 ·rintro S ⟨l, hp', nx3, ck3, n, t, w, rfl, a2, hn3, ho, hw, _, k5, ⟨o0, o1, o2, o3, o4⟩, hij⟩;have k5 := k5 rfl;refine Um.ok ?_;refine zau (zby ?_);refine zaa ⟨.inr rfl, _, ?_, n, t, w, rfl, ⟨o0, o1, o2, o3, o4, hij, ⟨by show nx <= nx3; omega, fun j _ hj => (ho j hj).trans (hold j hj)⟩⟩⟩
  exact (congrArg some (show AV.agg [w 0, w 1, w 2, w 3, w 4] = .agg (List.take 5 [w 0, w 1, w 2, w 3, w 4]) from rfl)).symm ▸ zne ((zch 2).trans a2) (zci (sp := ck + 1) (cs := [w 0, w 1, w 2, w 3, w 4]) k5 hn3) (y08 _)
set_option maxRecDepth 100000
def b90_0 : IC := .seq (sR [oT 7 6,
  oF 8 0 2,
  oN 9 8,
  oM 10 (.bin .lss (.t 7) (.t 9))]
 (.cond (.t 10) (.skip)
 (.exit 0)))
 (.seq (.block 1 (.region [oT 13 5,
  oF 14 0 3,
  oN 15 14,
  oT 16 6,
  oM 17 (.idxs 1 (.t 15) (.t 16)),
  oN 18 17,
  oM 19 (.bin .eql (.t 18) (cI 0)),
  oF 20 0 3,
  oN 21 20,
  oT 22 6,
  oM 23 (.idxs 1 (.t 21) (.t 22)),
  oN 24 23,
  oM 25 (.bin .eql (.t 24) (cI 2)),
  oM 26 (.bslice 1 2 [.bool false, .bool false] [(0, 1, (.t 19)), (1, 1, (.t 25))]),
  oM 27 (.append 1 1 [.bool false] (.t 13) (.t 26)),
  oT 5 27] (some [[], [], [1], [], [2, 3], [4], [5], [], [7], [], [8, 9], [10], [11], [6, 12], [0, 13], [14, 14, 0, 1, 2, 3, 4, 5, 6, 7, 8, 9, 10, 11, 12, 13, 14]])))
 (.region [oT 11 6,
  oM 12 (.bin .add (.t 11) (cI 1)),
  oT 6 12] none))
-- pneumatic/pneumaticref27.Values
def ic90 : IC := sR [oM 2 (.box (.t 0)),
  oM 3 (.box (.t 1)),
  oM 4 (.mov (.c (.nils)))]
 (sR [oM 5 (.mov (.c (.nils)))]
 (.seq (sR [oM 6 (.mov (cI 0))]
 (.block 0 (.loop b90_0)))
 (sR [oT 28 5,
  oF 29 2 3,
  oN 30 29,
  oM 31 (.append 1 1 [.bool false] (.t 28) (.t 30)),
  oT 5 31]
 (sR [oT 32 5,
  oF 33 3 3,
  oN 34 33,
  oM 35 (.append 1 1 [.bool false] (.t 32) (.t 34)),
  oT 4 35]
 (.ret)))))
theorem fn90 : env0.fn 90 = some ⟨36, ic90, [.t 4]⟩ := by kernel_rfl
set_option maxHeartbeats 4000000 in
set_option maxRecDepth 100000 in
theorem values90 {c : Ctl} {s : Sta} (hs : Sms s) (h1 : 1 <= s.en.length) (ha : (s.en.length : Int) = c.act) : PFo Tryz.prog 90 [.agg (cC c), .agg (cS s)] 1 (zfo s).length none (bC (zfo s)) := by
 have he40 := hs.e;have hi200 := hs.i;have hb200 := hs.b;have he := zfn s.en;refine zev (zft _) fun w0 N0 => ?_;refine zbl env0_ok fn90 [(0, .agg (cC c)), (1, .agg (cS s))] (y04 rfl) rfl ?_;unfold ic90;refine zi2 ?_;refine znr 1 1 (cs := cS s) (l' := [(2, .mptr 0 0 0), (3, .vptr (cS s)), (5, .nils), (6, .int .i64 0)]) rfl rfl (.cons rfl .same (.cons rfl (.fptr rfl) (.cons rfl .same (.cons rfl .same .nil)))) ?_;refine znr 0 0 (cs := cC c) (l' := [(2, .vptr (cC c)), (3, .vptr (cS s)), (5, .nils), (6, .int .i64 0)]) rfl rfl (.cons rfl (.fptr rfl) (.cons rfl .same (.cons rfl .same (.cons rfl .same .nil)))) ?_;refine zav (fun mm S => ∃ (i : Nat) (w : AV) (hp : List (Nat × Nat × AObj)) (nx ck : Nat), mm = s.en.length - i /\ i <= s.en.length /\ Gq 1 0 ((swL (s.en.take i)).map fun b => [.bool b]) w hp nx /\ S = st 36 [(2, .vptr (cC c)), (3, .vptr (cS s)), (5, w), (6, .int .i64 (i : Nat))] hp nx ck) s.en.length
  skp ⟨0, .nils, _, _, _, rfl, y0r _, .inl ⟨rfl, rfl⟩, rfl⟩ ?_
 rintro mm S ⟨i, w, hp, nx, ck, rfl, hi, hG, rfl⟩;unfold b90_0 cC cS vsI;refine zi2 ?_;refine za4 rfl rfl rfl (fun h3 => ?_) fun h3 => ?_
 ·have hlt : i < s.en.length := by
   have h4 : ((i : Nat) : Int) < c.act := of_decide_eq_true h3;omega
  have hge := zij hlt;have hsw := zsc hlt;have hsl := znh (s.en.take i);rw [List.length_take] at hsl;have w1 := za7 i (by omega);generalize zA s.en i = e at *;refine zog ?_;refine zsl env0_ok [] (fun _ hx => absurd hx y0c) (fun _ => false) [] (fun _ hx => absurd hx y0c) false (fun _ => false) (fun _ => true) (fun _ _ => rfl) (fun _ h _ => Bool.noConfusion h) rfl rfl rfl rfl ?_;refine zfk ?_;refine zb3 (op := .eql) (v := .bool (e == 0)) rfl rfl rfl ?_;refine zfk ?_;refine zb3 (op := .eql) (v := .bool (e == 2)) rfl rfl rfl ?_;repeat (first | refine zcw rfl rfl ?_)
  refine zt5 [[.bool (e == 0)], [.bool (e == 2)]] (hG.fresh ck _) (zlu _) rfl rfl (zf5 (xs := [[.bool (e == 0)], [.bool (e == 2)]]) (ys := []) za3 rfl fun x hx => by rcases y0f.1 hx with rfl | hx; rfl; obtain rfl := y0o.1 hx; rfl) rfl (by decide) (by omega) (by simp; omega) ?_;intro w' hp' nx' ck' hG' hnx' hk';refine zi2 ?_;rw [w1];refine zad (show s.en.length - (i + 1) < s.en.length - i by omega) skp ⟨i + 1, w', hp', nx', ck', rfl, hlt, ?_, rfl⟩
  rw [hsw, y16]; exact hG'
 have hie : i = s.en.length := by
  have h4 : ¬ ((i : Nat) : Int) < c.act := of_decide_eq_false h3;omega
 rw [hie, y1t] at hG;have hsl := znh s.en;refine zfk ?_;refine zbq ?_;refine zfk ?_;refine zt5 (s.inp.map fun b => [.bool b]) hG (zlu _) rfl rfl (zr8 _) (zqx _) (by decide) (y0r _) (by rw [y06, y06]; omega) ?_;intro w2 hp2 nx2 ck2 hG2 hnx2 hk2;refine zi2 ?_;refine zt5 (s.vals.map fun b => [.bool b]) hG2 (fun e he => (y1n.1 he).elim (zlu _ e) (zlu _ e)) rfl rfl (zr8 _) (zqx _) (by decide) (y0r _) (by rw [y0l, y06, y06, y06]; omega) ?_;intro w3 hp3 nx3 ck3 hG3 hnx3 hk3;refine zog ?_;rw [<- y16, <- y16] at hG3;have hG3 : Gq 1 0 ((zfo s).map fun b => [.bool b]) w3 hp3 nx3 := hG3;rcases hG3 with ⟨e, _⟩ | ⟨id, sp, rfl, hl, _, _⟩
 ·have := congrArg List.length e;rw [y06] at this;have hp := zgt s.en s.inp;unfold zfo at this;rw [y0l, hp] at this;exact absurd this (by simp; omega)
 ·refine zaa ⟨.inr rfl, _, rfl, id, sp, by rw [y06], ?_⟩;rw [zbi] at hl;exact hl
set_option maxRecDepth 100000
theorem OwL.viewI {l : List Int} {b : Nat} {w : AV} {id sp : Nat} {H : HS} (h : OwL (zC l) b w id sp H) {S : AS} (hk : ∀ j, b <= j -> j < H.next -> Am.look j S.heap = Am.look j H.heap) (d : Nat) : S.view (d + 1) w = vsI l := by
 obtain ⟨cap, rfl⟩ := h.w;rw [zsk];exact zds l rfl ((hk id h.lo h.hi).trans h.lk)
theorem OwL.viewB {l : List Bool} {b : Nat} {w : AV} {id sp : Nat} {H : HS} (h : OwL (bC l) b w id sp H) {S : AS} (hk : ∀ j, b <= j -> j < H.next -> Am.look j S.heap = Am.look j H.heap) (d : Nat) : S.view (d + 1) w = vsB l := by
 obtain ⟨cap, rfl⟩ := h.w;rw [zd0];exact zd5 l rfl ((hk id h.lo h.hi).trans h.lk)
theorem OwL.isCell {cs : List AV} {b : Nat} {w : AV} {id sp : Nat} {H : HS} (h : OwL cs b w id sp H) : w.isCell = true := by
 obtain ⟨cap, rfl⟩ := h.w;rfl
theorem OwL.of {cs : List AV} {b : Nat} {w : AV} {id sp : Nat} {H H' : HS} (h : OwL cs b w id sp H) (hn : H.next <= H'.next) (hk : Am.look id H'.heap = Am.look id H.heap) : OwL cs b w id sp H' := ⟨h.w, hk.trans h.lk, h.lo, y09 h.hi hn⟩
structure V7 (s : Sta) (n t : Nat -> Nat) (w : Nat -> AV) (b : Nat) (H : HS) : Prop where
 w0 : OwL (zC s.en) b (w 0) (n 0) (t 0) H
 w1 : OwL (bC s.va) b (w 1) (n 1) (t 1) H
 w2 : OwL (bC s.inp) b (w 2) (n 2) (t 2) H
 w3 : OwL (bC s.vals) b (w 3) (n 3) (t 3) H
 w4 : OwL (zC s.tms) b (w 4) (n 4) (t 4) H
 ij : ∀ i j, i < 5 -> j < 5 -> n i = n j -> i = j
theorem V7.view {s : Sta} {n t : Nat -> Nat} {w : Nat -> AV} {b : Nat} {H : HS} (h : V7 s n t w b H) {S : AS} (hk : ∀ j, b <= j -> j < H.next -> Am.look j S.heap = Am.look j H.heap) (d : Nat) : S.view (d + 2) (.agg [w 0, w 1, w 2, w 3, w 4]) = .agg (cS s) := by
 show AV.agg [S.view (d + 1) (w 0), S.view (d + 1) (w 1), S.view (d + 1) (w 2), S.view (d + 1) (w 3), S.view (d + 1) (w 4)] = _;rw [h.w0.viewI hk, h.w1.viewB hk, h.w2.viewB hk, h.w3.viewB hk, h.w4.viewI hk];rfl
theorem V7.keep {s : Sta} {n t : Nat -> Nat} {w : Nat -> AV} {b : Nat} {H H' : HS} (h : V7 s n t w b H) (hn : H.next <= H'.next) (hk : ∀ j, j < H.next -> Am.look j H'.heap = Am.look j H.heap) : V7 s n t w b H' :=
 ⟨h.w0.of hn (hk _ h.w0.hi), h.w1.of hn (hk _ h.w1.hi), h.w2.of hn (hk _ h.w2.hi), h.w3.of hn (hk _ h.w3.hi), h.w4.of hn (hk _ h.w4.hi), h.ij⟩
theorem V7.put3 {s : Sta} {n t : Nat -> Nat} {w : Nat -> AV} {b nx ck : Nat} {hp : List (Nat × Nat × AObj)} (h : V7 s n t w b ⟨hp, nx, ck⟩) {v : List Bool} (hl : v.length = s.vals.length) : V7 ⟨s.en, s.va, s.inp, v, s.tms⟩ n t w b ⟨zap (n 3) (t 3, .cells (bC v)) hp, nx, ck⟩ := by
 have hne : ∀ i, i < 5 -> i ≠ 3 -> n 3 ≠ n i := fun i hi h3 e => h3 (h.ij 3 i (by decide) hi e).symm;refine ⟨h.w0.of (y08 _) ?_, h.w1.of (y08 _) ?_, h.w2.of (y08 _) ?_, ⟨?_, ?_, h.w3.lo, h.w3.hi⟩, h.w4.of (y08 _) ?_, h.ij⟩
 ·show Am.look _ (zap _ _ _) = _; rw [za0, if_neg (hne 0 (by decide) (by decide))]
 ·show Am.look _ (zap _ _ _) = _; rw [za0, if_neg (hne 1 (by decide) (by decide))]
 ·show Am.look _ (zap _ _ _) = _; rw [za0, if_neg (hne 2 (by decide) (by decide))]
 ·obtain ⟨cap, e⟩ := h.w3.w;exact ⟨cap, by rw [e, zd0, zd0, hl]⟩
 ·show Am.look _ (zap _ _ _) = _; rw [za0, if_pos rfl]
 ·show Am.look _ (zap _ _ _) = _; rw [za0, if_neg (hne 4 (by decide) (by decide))]
theorem V7.put2 {s : Sta} {n t : Nat -> Nat} {w : Nat -> AV} {b nx ck : Nat} {hp : List (Nat × Nat × AObj)} (h : V7 s n t w b ⟨hp, nx, ck⟩) {v : List Bool} (hl : v.length = s.inp.length) : V7 ⟨s.en, s.va, v, s.vals, s.tms⟩ n t w b ⟨zap (n 2) (t 2, .cells (bC v)) hp, nx, ck⟩ := by
 have hne : ∀ i, i < 5 -> i ≠ 2 -> n 2 ≠ n i := fun i hi h3 e => h3 (h.ij 2 i (by decide) hi e).symm;refine ⟨h.w0.of (y08 _) ?_, h.w1.of (y08 _) ?_, ⟨?_, ?_, h.w2.lo, h.w2.hi⟩, h.w3.of (y08 _) ?_, h.w4.of (y08 _) ?_, h.ij⟩
 ·show Am.look _ (zap _ _ _) = _; rw [za0, if_neg (hne 0 (by decide) (by decide))]
 ·show Am.look _ (zap _ _ _) = _; rw [za0, if_neg (hne 1 (by decide) (by decide))]
 ·obtain ⟨cap, e⟩ := h.w2.w;exact ⟨cap, by rw [e, zd0, zd0, hl]⟩
 ·show Am.look _ (zap _ _ _) = _; rw [za0, if_pos rfl]
 ·show Am.look _ (zap _ _ _) = _; rw [za0, if_neg (hne 3 (by decide) (by decide))]
 ·show Am.look _ (zap _ _ _) = _; rw [za0, if_neg (hne 4 (by decide) (by decide))]
theorem C7.v7 {s : Sta} {n t : Nat -> Nat} {w : Nat -> AV} {H H' : HS} (h : C7 s n t w H H') : V7 s n t w H.next H' := ⟨h.w0, h.w1, h.w2, h.w3, h.w4, h.ij⟩
def ios63 : List Opr := [oF 23 3 5, oN 24 23, oT 25 6, oF 26 2 2, oN 27 26, oT 28 6, oM 29 (.idxs 10 (.t 27) (.t 28)), oF 30 2 29, oL 31 3 30, oL 32 5 2, oL 33 5 5, oM 34 (.call (.c (.fn 90 [] [])) [(.t 32), (.t 33)]), oM 35 (.call (.c (.fn 89 [] [])) [(.t 31), (.t 34)]), oM 36 (.idxs 1 (.t 24) (.t 25)), ⟨none, .store 1 (.t 36) (.t 35), none⟩]
def pres63 : List (List Nat) := [[], [0], [], [], [3], [], [4, 5], [6], [7], [], [], [9, 10], [8, 11, 11], [1, 2, 0, 1, 2, 3, 4, 5, 6, 7, 8, 9, 10, 11, 12], [13, 12, 12, 0, 1, 2, 3, 4, 5, 6, 7, 8, 9, 10, 11, 12]]
def rg63 (c : Ctl) (i nb sb n3 t3 : Nat) (cap : Option Nat) (v ln : List Bool) (w : Nat -> AV) : RegC where
 m := 14
 dst := fun j => j + 23
 qv := fun j => match j with
  | 0 => .c fun _ => .mptr nb sb (0 + 3)
  | 1 => .c fun _ => .ms n3 t3 1 0 v.length cap
  | 2 => .c fun _ => .int .i64 (i : Nat)
  | 3 => .c fun _ => .mptr 0 0 (0 + 2)
  | 4 => .c fun _ => vsG c.sg
  | 5 => .c fun _ => .int .i64 (i : Nat)
  | 6 => .c fun _ => .vptr (c10 (sgA c.sg i))
  | 7 => .c fun _ => .vptr ((c10 (sgA c.sg i)).drop 2)
  | 8 => .c fun _ => .agg (c3 (sgA c.sg i).on)
  | 9 => .c fun _ => .agg (cC c)
  | 10 => .c fun _ => .agg [w 0, w 1, w 2, w 3, w 4]
  | 11 => .l
  | 12 => .c fun _ => .bool (zas ln (sgA c.sg i).on)
  | 13 => .c fun _ => .mptr n3 t3 (0 + ((i : Nat) : Int).toNat * 1)
  | _ => .l
 lw := fun _ x => .ms (x 0) (x 1) 1 0 ln.length none
 tl := fun _ x hp lo hi => Am.look (x 0) hp = some (x 1, .cells (bC ln)) /\ lo <= x 0 /\ x 0 < hi
 st := fun _ _ _ _ _ _ h hk => ⟨(hk _ h.2.2).trans h.1, h.2⟩
theorem rok63 : zir 14 15 pres63 (fun j => j + 23) [2, 4, 5, 6] = true := by kernel_rfl
set_option maxHeartbeats 4000000 in
set_option maxRecDepth 100000 in
theorem reg63 {w0 : World} {N0 : Nat} {md : Md} {c : Ctl} {s : Sta} {i nb sb b0 : Nat} {v ln : List Bool} {bx : AV} {n t : Nat -> Nat} {w : Nat -> AV} {l0 : List (Nat × AV)} {hp0 : List (Nat × Nat × AObj)} {nx0 ck0 : Nat} (hge : (c.sg.map c10)[((i : Nat) : Int).toNat]? = some (c10 (sgA c.sg i))) (hV : V7 ⟨s.en, s.va, s.inp, v, s.tms⟩ n t w b0 ⟨hp0, nx0, ck0⟩) (hvi : i < v.length) (h0 : Am.look 0 hp0 = some (0, .cells (cC c))) (hp0' : 0 < nx0) (hB : Am.look nb hp0 = some (sb, .cells [w 0, w 1, w 2, w 3, w 4])) (hnb : nb < nx0)
  (p90 : PFo Tryz.prog 90 [.agg (cC c), .agg (cS ⟨s.en, s.va, s.inp, v, s.tms⟩)] 1 ln.length none (bC ln)) (p89 : PF Tryz.prog 89 [.agg (c3 (sgA c.sg i).on), vsB ln] (.bool (zas ln (sgA c.sg i).on)))
  (hb0 : ∀ t v, (t, v) ∈ [(2, .mptr 0 0 0), (4, bx), (5, .mptr nb sb 0), (6, .int .i64 (i : Nat))] -> zah t l0 = some v) {y : IC} {bi : Nat} {k : List Fr} {Q : Exit -> AS -> Prop}
  (go : ∀ hp nx ck, nx0 <= nx -> (∀ j, j < nx0 -> Am.look j hp = Am.look j hp0) -> Zm Tryz.prog w0 N0 md y (st 38 [(2, .mptr 0 0 0), (4, bx), (5, .mptr nb sb 0), (6, .int .i64 (i : Nat))] (zap (n 3) (t 3, .cells (bC (v.set i (zas ln (sgA c.sg i).on)))) hp) nx ck) k Q)
  :
  Zm Tryz.prog w0 N0 md (.region ios63 (some pres63)) (st 38 l0 hp0 nx0 ck0) (.blk bi :: .seq y :: k) Q := by
 obtain ⟨cap, hw3⟩ := hV.w3.w;have hw3 : w 3 = .ms (n 3) (t 3) 1 0 v.length cap := by rw [hw3, zd0]
 have hvw := fun (S : AS) hk => hV.view (S := S) hk (VD - 2);have hl3 := hV.w3.lk;have hn3 := hV.w3.hi;have hl3 : Am.look (n 3) hp0 = some (t 3, .cells (bC v)) := hl3;have hn3 : n 3 < nx0 := hn3;refine zpd env0_ok.mix fun rd => ?_;refine zg6 (rg63 c i nb sb (n 3) (t 3) cap v ln w) [(2, .mptr 0 0 0), (4, bx), (5, .mptr nb sb 0), (6, .int .i64 (i : Nat))] (fun j S => ∃ l hp nx ck, S = st 38 l hp nx ck /\ (∀ t v, (t, v) ∈ [(2, .mptr 0 0 0), (4, bx), (5, .mptr nb sb 0), (6, .int .i64 (i : Nat))] -> zah t l = some v) /\ nx0 <= nx /\ (j = 14 -> (∀ j, j < nx0 -> Am.look j hp = Am.look j hp0) /\ zah 36 l = some (.mptr (n 3) (t 3) (0 + ((i : Nat) : Int).toNat * 1)) /\ zah 35 l = some (.bool (zas ln (sgA c.sg i).on))) /\
  (j = 15 -> ∃ hp1, (∀ j, j < nx0 -> Am.look j hp1 = Am.look j hp0) /\ hp = zap (n 3) (t 3, .cells (bC (v.set i (zas ln (sgA c.sg i).on)))) hp1)) 15 rfl rok63 hb0 ?_ ?_ ?_ ?_ ?_
 ·intro j f e nm nm' hp;unfold rg63 at e;dsimp only at e;split at e;all_goals first
   | (cases e; rfl)
   | (cases e; done)
 ·intro j hj n1 D l hp' nx' ck' nm lo hi hK hp;have hp0 := hp0';have hj : j < 14 := hj
  match j, hj with
   | 0, _ => exact fun go => za9 rfl rfl (zat (hK.bs 5 _ (me 2 rfl))) go
   | 1, _ => exact fun go => za9 rfl rfl (zba (hK.q 0 _ (hp 0 (y01 ..)) rfl) ((hK.ol _ hnb).trans hB) (y09 hnb hK.bx) (by rw [hw3]; rfl)) go
   | 2, _ => exact fun go => za9 rfl rfl (zha (hK.bs 6 _ (me 3 rfl))) go
   | 3, _ => exact fun go => za9 rfl rfl (zat (hK.bs 2 _ (y01 ..))) go
   | 4, _ => exact fun go => za9 rfl rfl (zba (hK.q 3 _ (hp 3 (y01 ..)) rfl) ((hK.ol _ hp0).trans h0) (y09 hp0 hK.bx) rfl) go
   | 5, _ => exact fun go => za9 rfl rfl (zha (hK.bs 6 _ (me 3 rfl))) go
   | 6, _ => exact fun go => za9 rfl rfl (zrd (hK.q 4 _ (hp 4 (y01 ..)) rfl) (hK.q 5 _ (hp 5 (me 1 rfl)) rfl) (y11 _) hge rfl) go
   | 7, _ => exact fun go => za9 rfl rfl (zh9 (hK.q 6 _ (hp 6 (y01 ..)) rfl) rfl rfl) go
   | 8, _ => exact fun go => za9 rfl rfl (zi1 (hK.q 7 _ (hp 7 (y01 ..)) rfl) rfl rfl rfl) go
   | 9, _ => exact fun go => za9 rfl rfl (zf7 (hK.bs 2 _ (y01 ..)) ((hK.ol _ hp0).trans h0) (y09 hp0 hK.bx) rfl rfl) go
   | 10, _ => exact fun go => za9 rfl rfl (zf7 (hK.bs 5 _ (me 2 rfl)) ((hK.ol _ hnb).trans hB) (y09 hnb hK.bx) rfl rfl) go
   | 11, _ => exact fun go => zqm rfl rfl (zqr (hK.q 9 _ (hp 9 (y01 ..)) rfl) (hK.q 10 _ (hp 10 (me 1 rfl)) rfl)) (by show [AV.agg (cC c), AS.view _ VD (.agg [w 0, w 1, w 2, w 3, w 4])] = _; rw [show VD = (VD - 2) + 2 from rfl, hvw _ (fun j h1 h2 => hK.ol j h2)]) p90 (zft _) (go (fun j => match j with | 0 => nx' | _ => ck') _ _ _ (y0y _) (fun j hj => za5 hj) ⟨za3, y08 _, y07 _⟩)
   | 12, _ => 
    have h11 := hK.lh 11 (hp 11 (me 1 rfl)) rfl;exact fun go => zht rfl rfl (zqr (hK.q 8 _ (hp 8 (y01 ..)) rfl) (hK.lv 11 (hp 11 (me 1 rfl)) rfl)) (by show [_, AS.view _ VD (.ms (nm 11 0) (nm 11 1) 1 0 ln.length none)] = _; rw [show VD = (VD - 1) + 1 from rfl, zd5 ln rfl h11.1.1]; rfl) p89 (fun _ => rfl) (fun m hm => absurd hm y0c) go
   | 13, _ => exact fun go => za9 rfl rfl (zmv (hK.q 1 _ (hp 1 (y01 ..)) rfl) (hK.q 2 _ (hp 2 (me 1 rfl)) rfl) (y11 _) (by omega)) go
   | j + 14, h => exact absurd h (by omega)
 ·intro l hp' nx' ck' nm lo hi hK;have m : ∀ j, j < 14 -> j ∈ List.range 14 := fun j hj => y0m.2 hj;exact ⟨l, hp', nx', ck', rfl, hK.bs, hK.bx, fun _ => ⟨hK.ol, hK.q 13 _ (m 13 (by decide)) rfl, hK.q 12 _ (m 12 (by decide)) rfl⟩, fun h => absurd h (by show ¬ 14 = 15; decide)⟩
 ·rintro j h1 h2 S ⟨l, hp', nx3, ck3, rfl, hbs, k1, k3, _⟩ m1 D go;have h1 : 14 <= j := h1;obtain rfl : j = 14 := by omega
  obtain ⟨ho, q36, q35⟩ := k3 rfl;have ez : 0 + ((i : Nat) : Int).toNat * 1 = i := by simp
  rw [ez] at q36;refine zik rfl (zf8 q36 q35 rfl rfl ((ho _ hn3).trans hl3) (Nat.ble_eq_true_of_le (by rw [zd0]; exact hvi)) rfl) (go _ ⟨l, _, _, _, rfl, hbs, k1, fun h => absurd h (by decide), fun _ => ⟨hp', ho, ?_⟩⟩);rw [zp7 (by rw [zd0]; exact hvi), zld]
 ·rintro S ⟨l, hp', nx3, ck3, rfl, hbs, k1, _, k4⟩;obtain ⟨hp1, ho, rfl⟩ := k4 rfl;refine Um.ok ?_;refine zg3 (zau (zpe (Subm.of_sub ?_) (go hp1 nx3 ck3 k1 ho)));exact Sub.tm rfl rfl rfl rfl rfl fun x hx => (zch x.1).trans (hbs x.1 x.2 hx)
def b63_0 : IC := .seq (sR [oT 9 6,
  oF 10 2 2,
  oN 11 10,
  oM 12 (.len false (.t 11)),
  oM 13 (.bin .lss (.t 9) (.t 12))]
 (.cond (.t 13) (.skip)
 (.exit 0)))
 (.seq (.block 1 (sR [oF 16 2 2,
  oN 17 16,
  oT 18 6,
  oM 19 (.idxs 10 (.t 17) (.t 18)),
  oF 20 1 19,
  oN 21 20,
  oM 22 (.bin .eql (.t 21) (cI 0))]
 (.cond (.t 22) (.region [oF 23 3 5,
  oN 24 23,
  oT 25 6,
  oF 26 2 2,
  oN 27 26,
  oT 28 6,
  oM 29 (.idxs 10 (.t 27) (.t 28)),
  oF 30 2 29,
  oL 31 3 30,
  oL 32 5 2,
  oL 33 5 5,
  oM 34 (.call (.c (.fn 90 [] [])) [(.t 32), (.t 33)]),
  oM 35 (.call (.c (.fn 89 [] [])) [(.t 31), (.t 34)]),
  oM 36 (.idxs 1 (.t 24) (.t 25)),
  ⟨none, .store 1 (.t 36) (.t 35), none⟩] (some [[], [0], [], [], [3], [], [4, 5], [6], [7], [], [], [9, 10], [8, 11, 11], [1, 2, 0, 1, 2, 3, 4, 5, 6, 7, 8, 9, 10, 11, 12], [13, 12, 12, 0, 1, 2, 3, 4, 5, 6, 7, 8, 9, 10, 11, 12]]))
 (.skip))))
 (.region [oT 14 6,
  oM 15 (.bin .add (.t 14) (cI 1)),
  oT 6 15] none))
-- pneumatic/pneumaticref27.Computed
def ic63 : IC := sR [oM 2 (.box (.t 0)),
  oM 3 (.box (.t 1)),
  oM 4 (.alloc [.nils, .nils, .nils, .nils, .nils])]
 (sR [oL 7 5 3,
  oM 8 (.call (.c (.fn 7 [] [])) [(.t 7)]),
  oM 5 (.alloc [.nils, .nils, .nils, .nils, .nils]),
  ⟨none, .store 5 (.t 5) (.t 8), none⟩]
 (.seq (sR [oM 6 (.mov (cI 0))]
 (.block 0 (.loop b63_0)))
 (sR [oL 37 5 5,
  ⟨none, .store 5 (.t 4) (.t 37), none⟩]
 (.ret))))
theorem fn63 : env0.fn 63 = some ⟨38, ic63, [.cell 4 (some 5)]⟩ := by kernel_rfl
set_option maxHeartbeats 4000000 in
set_option maxRecDepth 100000 in
theorem zst {c : Ctl} {s : Sta} (h : Ct c) (hs : Ss c s) : PF Tryz.prog 63 [.agg (cC c), .agg (cS s)] (.agg (cS (zbn c s))) := by
 have hg := zel c.sg;obtain ⟨k1, k2, k3, k4, k5⟩ := hs.sh;have a1 := h.a1;have a6 := h.a6;have s16 := h.s16;have i16 := h.i16;have hpl := zgt s.en s.inp;have hfs : fsC c = (zfh s.en s.inp).length := by rw [hpl]; unfold fsC; omega
 have hgv : (zbn c s) = ⟨s.en, s.va, s.inp, gat (zfh s.en s.inp) c.sg s.vals c.sg.length, s.tms⟩ := rfl;rw [hgv];refine za6 env0_ok fn63 [(0, .agg (cC c)), (1, .agg (cS s))] (y04 rfl) rfl fun w0 N0 => ?_;unfold ic63;refine zk5 ?_;refine zhh _ rfl rfl (zbk (copy7 hs.toSms.shs ⟨_, _, _⟩)) (fun _ _ _ _ hm => absurd hm y0c) ?_;rintro _ ⟨hp, nx, ck⟩ ⟨n, t, w, rfl, hC⟩;have hV := hC.v7;have hnx : 3 <= nx := hC.kp.next;have hl0 : Am.look 0 hp = some (0, .cells (cC c)) := (hC.kp.look 0 (fun h => h) (by show 0 < 3; decide)).trans rfl
 have hl2 : Am.look 2 hp = some (2, .cells zf1) := (hC.kp.look 2 (fun h => h) (by show 2 < 3; decide)).trans rfl
 have hV : V7 s n t w 3 ⟨hp, nx, ck⟩ := hV;repeat (first | refine zce ?_)
 refine zaj rfl rfl rfl rfl za3 rfl (by show ([w 0, w 1, w 2, w 3, w 4] : List AV).all AV.isCell = true; simp only [y1s, y2l, hV.w0.isCell, hV.w1.isCell, hV.w2.isCell, hV.w3.isCell, hV.w4.isCell]; rfl) ?_
 rw [zc7];refine zog ?_;have hn3 : n 3 < nx := hV.w3.hi;have hn3' : 3 <= n 3 := hV.w3.lo;have hV0 : V7 ⟨s.en, s.va, s.inp, gat (zfh s.en s.inp) c.sg s.vals 0, s.tms⟩ n t w 3 ⟨(nx, ck, .cells [w 0, w 1, w 2, w 3, w 4]) :: hp, nx + 1, ck + 1⟩ := hV.keep (y0y _) fun j hj => za5 hj;refine zav (fun mm S => ∃ (i : Nat) (hp' : List (Nat × Nat × AObj)) (nx' ck' : Nat), mm = c.sg.length - i /\ i <= c.sg.length /\ V7 ⟨s.en, s.va, s.inp, gat (zfh s.en s.inp) c.sg s.vals i, s.tms⟩ n t w 3 ⟨hp', nx', ck'⟩ /\ Am.look 0 hp' = some (0, .cells (cC c)) /\ Am.look 2 hp' = some (2, .cells zf1) /\ Am.look nx hp' = some (ck, .cells [w 0, w 1, w 2, w 3, w 4]) /\ nx < nx' /\ S = st 38 [(2, .mptr 0 0 0), (4, .mptr 2 2 0), (5, .mptr nx ck 0), (6, .int .i64 (i : Nat))] hp' nx' ck') c.sg.length
  skp ⟨0, _, _, _, rfl, y0r _, hV0, (za5 (by omega)).trans hl0, (za5 (by omega)).trans hl2, za3, y07 _, rfl⟩ ?_
 ·rintro mm S ⟨i, hp', nx', ck', rfl, hi, hVi, h0, h2, hB, hnb, rfl⟩;unfold b63_0;refine zk4 ?_;refine zab rfl h0 (by omega) rfl ?_;unfold vsG;repeat (first | refine zdb rfl rfl ?_)
  rw [hg];refine za4 rfl rfl rfl (fun h3 => ?_) fun h3 => ?_
  ·have hlt : i < c.sg.length := y1i.1 (of_decide_eq_true h3);have hge := zdi hlt;have hon := zhf (h.on i hlt);have w1 := za7 i (by omega);have hgs : gat (zfh s.en s.inp) c.sg s.vals (i + 1) = if (sgA c.sg i).kd = 0 then (gat (zfh s.en s.inp) c.sg s.vals i).set i (zas (zfh s.en s.inp ++ gat (zfh s.en s.inp) c.sg s.vals i) (sgA c.sg i).on) else gat (zfh s.en s.inp) c.sg s.vals i := rfl
   have hgl := zeq (zfh s.en s.inp) c.sg s.vals i;have hall : (zfh s.en s.inp ++ gat (zfh s.en s.inp) c.sg s.vals i).length = lnC c := by rw [y0l, hgl, <- hfs, k4]; rfl
   have p90 := values90 (c := c) (s := ⟨s.en, s.va, s.inp, gat (zfh s.en s.inp) c.sg s.vals i, s.tms⟩) ⟨hs.e, hs.v, hs.i, by rw [hgl]; exact hs.b, hs.t⟩ (by show 1 <= s.en.length; omega) k1
   have hgal : zfo ⟨s.en, s.va, s.inp, gat (zfh s.en s.inp) c.sg s.vals i, s.tms⟩ = zfh s.en s.inp ++ gat (zfh s.en s.inp) c.sg s.vals i := rfl;rw [hgal] at p90;have p89 := holds84 (zfh s.en s.inp ++ gat (zfh s.en s.inp) c.sg s.vals i) _ (sgA c.sg i).on (y08 _) (by rw [hall]; exact hon);rw [zhv] at p89;refine zog ?_;refine zab rfl h0 (by omega) rfl ?_;unfold vsG;refine zfk ?_;refine za4 rfl rfl rfl (fun h4 => ?_) fun h4 => ?_
   ·have h4 : (sgA c.sg i).kd = 0 := by simpa using h4
    rw [if_pos h4] at hgs;refine zog ?_;refine reg63 (s := s) (b0 := 3) (nb := nx) (sb := ck) (bx := .mptr 2 2 0) (n := n) (t := t) (w := w) hge hVi (by omega) h0 (by omega) hB hnb p90 p89 (fun t v ht => KeepA.get (.cons rfl (.cons rfl (.cons rfl (.cons rfl .nil)))) (t, v) ht) ?_;intro hp3 nx3 ck3 e1 e2;have hV3 := (hVi.keep (H' := ⟨hp3, nx3, ck3⟩) e1 e2).put3 (v := (gat (zfh s.en s.inp) c.sg s.vals i).set i (zas (zfh s.en s.inp ++ gat (zfh s.en s.inp) c.sg s.vals i) (sgA c.sg i).on)) (y24 ..);rw [<- hgs] at hV3 ⊢;refine ggf2 ?_;rw [w1];exact zad (show c.sg.length - (i + 1) < c.sg.length - i by omega) skp ⟨i + 1, _, _, _, rfl, hlt, hV3, by rw [za0, if_neg (by omega)]; exact (e2 0 (by omega)).trans h0, by rw [za0, if_neg (by omega)]; exact (e2 2 (by omega)).trans h2, by rw [za0, if_neg (by omega)]; exact (e2 nx hnb).trans hB, by omega, rfl⟩
   ·have h4 : ¬ (sgA c.sg i).kd = 0 := by simpa using h4
    rw [if_neg h4] at hgs;rw [<- hgs] at hVi;refine zi2 ?_;rw [w1];exact zad (show c.sg.length - (i + 1) < c.sg.length - i by omega) skp ⟨i + 1, _, _, _, rfl, hlt, hVi, h0, h2, hB, hnb, rfl⟩
  ·have hie : i = c.sg.length := by
    have h4 : ¬ ((i : Nat) : Int) < (c.sg.length : Nat) := of_decide_eq_false h3;omega
   subst hie;refine zfk ?_;refine zbq ?_;refine zfk ?_;refine zbp rfl hB hnb rfl rfl ?_;refine zaj rfl rfl rfl rfl h2 rfl (by show ([w 0, w 1, w 2, w 3, w 4] : List AV).all AV.isCell = true; simp only [y1s, y2l, hV.w0.isCell, hV.w1.isCell, hV.w2.isCell, hV.w3.isCell, hV.w4.isCell]; rfl) ?_
   refine zog ?_;refine zaa ⟨.inr rfl, _, zne (zch 4) (zci (sp := 2) (cs := [w 0, w 1, w 2, w 3, w 4]) (by show Am.look 2 (zap 2 _ hp') = _; rw [za0, if_pos rfl]; rfl) (by show 2 < nx'; omega)) (y08 _), ?_⟩
   rw [show VD = (VD - 2) + 2 from rfl]
   exact hVi.view (fun j h1 _ => by show Am.look j (zap 2 _ hp') = _; rw [za0, if_neg (by omega)]) _
def zud (c : Ctl) (v : List Bool) : Sta := ⟨List.replicate c.act.toNat 0, List.replicate c.act.toNat false, List.replicate c.ins.length false, v, List.replicate c.sg.length 0⟩
theorem zib {α : Type} (f : α -> AV) (x : α) : ∀ n, zeu n [f x] = (List.replicate n x).map f
 | 0 => rfl
 | n + 1 => by
  rw [List.replicate_succ, y1d, <- zib f x n];rfl
def ios38 : List Opr := [oF 5 0 1, oN 6 5, oM 7 (.mkslice 1 8 [.int .i64 0] (.t 6) (.t 6)), oF 8 0 1, oN 9 8, oM 10 (.mkslice 1 1 [.bool false] (.t 9) (.t 9)), oF 11 1 1, oN 12 11, oM 13 (.len false (.t 12)), oM 14 (.mkslice 1 1 [.bool false] (.t 13) (.t 13)), oF 15 2 1, oN 16 15, oM 17 (.len false (.t 16)), oM 18 (.mkslice 1 1 [.bool false] (.t 17) (.t 17)), oF 19 2 1, oN 20 19, oM 21 (.len false (.t 20)), oM 22 (.mkslice 1 8 [.int .i64 0] (.t 21) (.t 21)), oM 23 (.build [.nils, .nils, .nils, .nils, .nils] [(0, 1, (.t 7)), (1, 1, (.t 10)), (2, 1, (.t 14)), (3, 1, (.t 18)), (4, 1, (.t 22))]), oM 3 (.alloc [.nils, .nils, .nils, .nils, .nils]), ⟨none, .store 5 (.t 3) (.t 23), none⟩]
def pres38 : List (List Nat) := [[], [0], [1, 1], [], [3], [4, 4], [], [6], [7], [8, 8], [], [10], [11], [12, 12], [], [14], [15], [16, 16], [2, 5, 9, 13, 17], [], [19, 18, 0, 1, 2, 3, 4, 5, 6, 7, 8, 9, 10, 11, 12, 13, 14, 15, 16, 17, 18, 19]]
def rg38 (c : Ctl) : RegC where
 m := 20
 dst := fun j => match j with | 19 => 3 | j => j + 5
 qv := fun j => match j with
  | 0 => .c fun _ => .mptr 0 0 (0 + 0)
  | 1 => .c fun _ => .int .i64 c.act
  | 2 => .l
  | 3 => .c fun _ => .mptr 0 0 (0 + 0)
  | 4 => .c fun _ => .int .i64 c.act
  | 5 => .l
  | 6 => .c fun _ => .mptr 0 0 (0 + 1)
  | 7 => .c fun _ => vsN c.ins
  | 8 => .c fun _ => .int .i64 (c.ins.length : Nat)
  | 9 => .l
  | 10 => .c fun _ => .mptr 0 0 (0 + 2)
  | 11 => .c fun _ => vsG c.sg
  | 12 => .c fun _ => .int .i64 (c.sg.length : Nat)
  | 13 => .l
  | 14 => .c fun _ => .mptr 0 0 (0 + 2)
  | 15 => .c fun _ => vsG c.sg
  | 16 => .c fun _ => .int .i64 (c.sg.length : Nat)
  | 17 => .l
  | 18 => .c fun nm => .agg [(.ms (nm 2 0) (nm 2 1) 1 0 c.act.toNat (some c.act.toNat)), (.ms (nm 5 0) (nm 5 1) 1 0 c.act.toNat (some c.act.toNat)), (.ms (nm 9 0) (nm 9 1) 1 0 ((c.ins.length : Nat) : Int).toNat (some ((c.ins.length : Nat) : Int).toNat)), (.ms (nm 13 0) (nm 13 1) 1 0 ((c.sg.length : Nat) : Int).toNat (some ((c.sg.length : Nat) : Int).toNat)), (.ms (nm 17 0) (nm 17 1) 1 0 ((c.sg.length : Nat) : Int).toNat (some ((c.sg.length : Nat) : Int).toNat))]
  | 19 => .l
  | _ => .l
 lw := fun j x => match j with
  | 2 => .ms (x 0) (x 1) 1 0 c.act.toNat (some c.act.toNat)
  | 5 => .ms (x 0) (x 1) 1 0 c.act.toNat (some c.act.toNat)
  | 9 => .ms (x 0) (x 1) 1 0 ((c.ins.length : Nat) : Int).toNat (some ((c.ins.length : Nat) : Int).toNat)
  | 13 => .ms (x 0) (x 1) 1 0 ((c.sg.length : Nat) : Int).toNat (some ((c.sg.length : Nat) : Int).toNat)
  | 17 => .ms (x 0) (x 1) 1 0 ((c.sg.length : Nat) : Int).toNat (some ((c.sg.length : Nat) : Int).toNat)
  | _ => .mptr (x 0) (x 1) 0
 tl := fun j x hp lo hi => match j with
  | 2 => Am.look (x 0) hp = some (x 1, .cells (zeu c.act.toNat [.int .i64 0])) /\ lo <= x 0 /\ x 0 < hi
  | 5 => Am.look (x 0) hp = some (x 1, .cells (zeu c.act.toNat [.bool false])) /\ lo <= x 0 /\ x 0 < hi
  | 9 => Am.look (x 0) hp = some (x 1, .cells (zeu ((c.ins.length : Nat) : Int).toNat [.bool false])) /\ lo <= x 0 /\ x 0 < hi
  | 13 => Am.look (x 0) hp = some (x 1, .cells (zeu ((c.sg.length : Nat) : Int).toNat [.bool false])) /\ lo <= x 0 /\ x 0 < hi
  | 17 => Am.look (x 0) hp = some (x 1, .cells (zeu ((c.sg.length : Nat) : Int).toNat [.int .i64 0])) /\ lo <= x 0 /\ x 0 < hi
  | _ => Am.look (x 0) hp = some (x 1, .cells zf1) /\ lo <= x 0 /\ x 0 < hi
 st := fun j x hp hp' lo hi h hk => by
  revert h;split <;> exact fun h => ⟨(hk _ h.2.2).trans h.1, h.2⟩
theorem rok38 : zir 20 21 pres38 (fun j => match j with | 19 => 3 | j => j + 5) [1, 2] = true := by kernel_rfl
def b38_0 : IC := .seq (sR [oT 24 4,
  oF 25 2 1,
  oN 26 25,
  oM 27 (.len false (.t 26)),
  oM 28 (.bin .lss (.t 24) (.t 27))]
 (.cond (.t 28) (.skip)
 (.exit 0)))
 (.seq (.block 1 (.region [oF 31 3 3,
  oN 32 31,
  oT 33 4,
  oF 34 2 1,
  oN 35 34,
  oT 36 4,
  oM 37 (.idxs 10 (.t 35) (.t 36)),
  oF 38 9 37,
  oN 39 38,
  oM 40 (.idxs 1 (.t 32) (.t 33)),
  ⟨none, .store 1 (.t 40) (.t 39), none⟩] (some [[], [0], [], [], [3], [], [4, 5], [6], [7], [1, 2, 0, 1, 2, 3, 4, 5, 6, 7, 8], [9, 8, 0, 1, 2, 3, 4, 5, 6, 7, 8]])))
 (.region [oT 29 4,
  oM 30 (.bin .add (.t 29) (cI 1)),
  oT 4 30] none))
-- pneumatic/pneumaticref27.Begin
def ic38 : IC := sR [oM 1 (.box (.t 0)),
  oM 2 (.alloc [.nils, .nils, .nils, .nils, .nils])]
 (.seq (.region [oF 5 0 1,
  oN 6 5,
  oM 7 (.mkslice 1 8 [.int .i64 0] (.t 6) (.t 6)),
  oF 8 0 1,
  oN 9 8,
  oM 10 (.mkslice 1 1 [.bool false] (.t 9) (.t 9)),
  oF 11 1 1,
  oN 12 11,
  oM 13 (.len false (.t 12)),
  oM 14 (.mkslice 1 1 [.bool false] (.t 13) (.t 13)),
  oF 15 2 1,
  oN 16 15,
  oM 17 (.len false (.t 16)),
  oM 18 (.mkslice 1 1 [.bool false] (.t 17) (.t 17)),
  oF 19 2 1,
  oN 20 19,
  oM 21 (.len false (.t 20)),
  oM 22 (.mkslice 1 8 [.int .i64 0] (.t 21) (.t 21)),
  oM 23 (.build [.nils, .nils, .nils, .nils, .nils] [(0, 1, (.t 7)), (1, 1, (.t 10)), (2, 1, (.t 14)), (3, 1, (.t 18)), (4, 1, (.t 22))]),
  oM 3 (.alloc [.nils, .nils, .nils, .nils, .nils]),
  ⟨none, .store 5 (.t 3) (.t 23), none⟩] (some [[], [0], [1, 1], [], [3], [4, 4], [], [6], [7], [8, 8], [], [10], [11], [12, 12], [], [14], [15], [16, 16], [2, 5, 9, 13, 17], [], [19, 18, 0, 1, 2, 3, 4, 5, 6, 7, 8, 9, 10, 11, 12, 13, 14, 15, 16, 17, 18, 19]]))
 (.seq (sR [oM 4 (.mov (cI 0))]
 (.block 0 (.loop b38_0)))
 (sR [oL 41 5 1,
  oL 42 5 3,
  oM 43 (.call (.c (.fn 63 [] [])) [(.t 41), (.t 42)]),
  ⟨none, .store 5 (.t 2) (.t 43), none⟩]
 (.ret))))
theorem fn38 : env0.fn 38 = some ⟨44, ic38, [.cell 2 (some 5)]⟩ := by kernel_rfl
set_option maxHeartbeats 4000000 in
set_option maxRecDepth 100000 in
theorem reg38 {w0 : World} {N0 : Nat} {c : Ctl} (h : Ct c) {l0 : List (Nat × AV)} {hp0 : List (Nat × Nat × AObj)} {nx0 ck0 : Nat} (hlb : Am.look 0 hp0 = some (0, .cells (cC c))) (h0x : 0 < nx0) (hb0 : ∀ t v, (t, v) ∈ [(1, .mptr 0 0 0), (2, .mptr 1 1 0)] -> zah t l0 = some v) {y : IC} {k : List Fr} {Q : Exit -> AS -> Prop}
  (go : ∀ hp nx ck n t w nb sb, nx0 <= nb -> nb < nx -> (∀ j, j < nx0 -> Am.look j hp = Am.look j hp0) -> Am.look nb hp = some (sb, .cells [w 0, w 1, w 2, w 3, w 4]) -> V7 (zud c (List.replicate c.sg.length false)) n t w nx0 ⟨hp, nx, ck⟩ -> (∀ i, i < 5 -> n i ≠ nb) -> Zm Tryz.prog w0 N0 none y (st 44 [(1, .mptr 0 0 0), (2, .mptr 1 1 0), (3, .mptr nb sb 0)] hp nx ck) k Q) :
  Zm Tryz.prog w0 N0 none (.region ios38 (some pres38)) (st 44 l0 hp0 nx0 ck0) (.seq y :: k) Q := by
 have a1 := h.a1;have a6 := h.a6;have s16 := h.s16;have i16 := h.i16;have ha : 0 <= c.act /\ c.act <= c.act /\ c.act <= 1048576 /\ 8 <= 16777216 := by omega
 have ha : ∀ {b : Nat}, b <= 16777216 -> 0 <= c.act /\ c.act <= c.act /\ c.act <= 1048576 /\ b <= 16777216 := fun h => by omega
 have hi2 : ∀ {b : Nat}, b <= 16777216 -> 0 <= ((c.ins.length : Nat) : Int) /\ ((c.ins.length : Nat) : Int) <= ((c.ins.length : Nat) : Int) /\ ((c.ins.length : Nat) : Int) <= 1048576 /\ b <= 16777216 := fun h => by omega
 have hs2 : ∀ {b : Nat}, b <= 16777216 -> 0 <= ((c.sg.length : Nat) : Int) /\ ((c.sg.length : Nat) : Int) <= ((c.sg.length : Nat) : Int) /\ ((c.sg.length : Nat) : Int) <= 1048576 /\ b <= 16777216 := fun h => by omega
 refine zpd env0_ok.mix fun rd => ?_;refine zg6 (rg38 c) [(1, .mptr 0 0 0), (2, .mptr 1 1 0)] (fun j S => ∃ l hp nx ck, ∃ (n t : Nat -> Nat) (w : Nat -> AV) (nb sb : Nat), S = st 44 l hp nx ck /\ (∀ t v, (t, v) ∈ [(1, .mptr 0 0 0), (2, .mptr 1 1 0)] -> zah t l = some v) /\ zah 3 l = some (.mptr nb sb 0) /\ nx0 <= nb /\ nb < nx /\ (∀ j, j < nx0 -> Am.look j hp = Am.look j hp0) /\ V7 (zud c (List.replicate c.sg.length false)) n t w nx0 ⟨hp, nx, ck⟩ /\ (∀ i, i < 5 -> n i ≠ nb) /\ (∀ i, i < 5 -> (w i).isCell = true) /\ (j = 20 -> Am.look nb hp = some (sb, .cells zf1) /\ zah 23 l = some (.agg [w 0, w 1, w 2, w 3, w 4])) /\ (j = 21 -> Am.look nb hp = some (sb, .cells [w 0, w 1, w 2, w 3, w 4]))) 21 rfl rok38 hb0 ?_ ?_ ?_ ?_ ?_
 ·intro j f e nm nm' hp;unfold rg38 at e;dsimp only at e;split at e;all_goals first
   | (cases e; rfl)
   | (cases e; done)
   | (
     cases e;dsimp only;rw [hp 2 (by decide), hp 5 (by decide), hp 9 (by decide), hp 13 (by decide), hp 17 (by decide)])
 ·intro j hj n1 D l hp' nx' ck' nm lo hi hK hp;have hj : j < 20 := hj
  match j, hj with
   | 0, _ => exact fun go => za9 rfl rfl (zat (hK.bs 1 _ (y01 ..))) go
   | 1, _ => exact fun go => za9 rfl rfl (zba (hK.q 0 _ (hp 0 (y01 ..)) rfl) ((hK.ol _ h0x).trans hlb) (y09 h0x hK.bx) rfl) go
   | 2, _ => exact fun go => za9 rfl rfl (zvj (hK.q 1 _ (hp 1 (y01 ..)) rfl) (hK.q 1 _ (hp 1 (y01 ..)) rfl) (ha (by decide))) (go (fun j => match j with | 0 => nx' | _ => ck') _ _ _ (y0y _) (fun j hj => za5 hj) ⟨za3, y08 _, y07 _⟩)
   | 3, _ => exact fun go => za9 rfl rfl (zat (hK.bs 1 _ (y01 ..))) go
   | 4, _ => exact fun go => za9 rfl rfl (zba (hK.q 3 _ (hp 3 (y01 ..)) rfl) ((hK.ol _ h0x).trans hlb) (y09 h0x hK.bx) rfl) go
   | 5, _ => exact fun go => za9 rfl rfl (zvj (hK.q 4 _ (hp 4 (y01 ..)) rfl) (hK.q 4 _ (hp 4 (y01 ..)) rfl) (ha (by decide))) (go (fun j => match j with | 0 => nx' | _ => ck') _ _ _ (y0y _) (fun j hj => za5 hj) ⟨za3, y08 _, y07 _⟩)
   | 6, _ => exact fun go => za9 rfl rfl (zat (hK.bs 1 _ (y01 ..))) go
   | 7, _ => exact fun go => za9 rfl rfl (zba (hK.q 6 _ (hp 6 (y01 ..)) rfl) ((hK.ol _ h0x).trans hlb) (y09 h0x hK.bx) rfl) go
   | 8, _ => exact fun go => za9 rfl rfl (zvh (hK.q 7 _ (hp 7 (y01 ..)) rfl) (congrArg (fun x : Nat => some (AV.int .i64 (x : Int))) (y06 (fun s => [AV.str s])))) go
   | 9, _ => exact fun go => za9 rfl rfl (zvj (hK.q 8 _ (hp 8 (y01 ..)) rfl) (hK.q 8 _ (hp 8 (y01 ..)) rfl) (hi2 (by decide))) (go (fun j => match j with | 0 => nx' | _ => ck') _ _ _ (y0y _) (fun j hj => za5 hj) ⟨za3, y08 _, y07 _⟩)
   | 10, _ => exact fun go => za9 rfl rfl (zat (hK.bs 1 _ (y01 ..))) go
   | 11, _ => exact fun go => za9 rfl rfl (zba (hK.q 10 _ (hp 10 (y01 ..)) rfl) ((hK.ol _ h0x).trans hlb) (y09 h0x hK.bx) rfl) go
   | 12, _ => exact fun go => za9 rfl rfl (zvh (hK.q 11 _ (hp 11 (y01 ..)) rfl) (congrArg (fun x : Nat => some (AV.int .i64 (x : Int))) (y06 c10))) go
   | 13, _ => exact fun go => za9 rfl rfl (zvj (hK.q 12 _ (hp 12 (y01 ..)) rfl) (hK.q 12 _ (hp 12 (y01 ..)) rfl) (hs2 (by decide))) (go (fun j => match j with | 0 => nx' | _ => ck') _ _ _ (y0y _) (fun j hj => za5 hj) ⟨za3, y08 _, y07 _⟩)
   | 14, _ => exact fun go => za9 rfl rfl (zat (hK.bs 1 _ (y01 ..))) go
   | 15, _ => exact fun go => za9 rfl rfl (zba (hK.q 14 _ (hp 14 (y01 ..)) rfl) ((hK.ol _ h0x).trans hlb) (y09 h0x hK.bx) rfl) go
   | 16, _ => exact fun go => za9 rfl rfl (zvh (hK.q 15 _ (hp 15 (y01 ..)) rfl) (congrArg (fun x : Nat => some (AV.int .i64 (x : Int))) (y06 c10))) go
   | 17, _ => exact fun go => za9 rfl rfl (zvj (hK.q 16 _ (hp 16 (y01 ..)) rfl) (hK.q 16 _ (hp 16 (y01 ..)) rfl) (hs2 (by decide))) (go (fun j => match j with | 0 => nx' | _ => ck') _ _ _ (y0y _) (fun j hj => za5 hj) ⟨za3, y08 _, y07 _⟩)
   | 18, _ => exact fun go => za9 rfl rfl (zi0 (zq5 (hK.lv 2 (hp 2 (y01 ..)) rfl) (hK.lv 5 (hp 5 (me 1 rfl)) rfl) (hK.lv 9 (hp 9 (me 2 rfl)) rfl) (hK.lv 13 (hp 13 (me 3 rfl)) rfl) (hK.lv 17 (hp 17 (me 4 rfl)) rfl) rfl rfl rfl rfl rfl) (fill5 rfl rfl rfl rfl rfl)) go
   | 19, _ => exact fun go => za9 rfl rfl zhz (go (fun j => match j with | 0 => nx' | _ => ck') _ _ _ (y0y _) (fun j hj => za5 hj) ⟨za3, y08 _, y07 _⟩)
   | j + 20, h => exact absurd h (by omega)
 ·intro l hp' nx' ck' nm lo hi hK;have m : ∀ j, j < 20 -> j ∈ List.range 20 := fun j hj => y0m.2 hj;obtain ⟨a0, b0, c0⟩ := hK.lh 2 (m 2 (by decide)) rfl;have a0 : Am.look (nm 2 0) hp' = some (nm 2 1, .cells (zeu c.act.toNat [.int .i64 0])) /\ lo 2 <= nm 2 0 /\ nm 2 0 < hi 2 := a0;rw [show (.int .i64 0 : AV) = AV.int .i64 0 from rfl, zib] at a0
  obtain ⟨a1, b1, c1⟩ := hK.lh 5 (m 5 (by decide)) rfl;have a1 : Am.look (nm 5 0) hp' = some (nm 5 1, .cells (zeu c.act.toNat [.bool false])) /\ lo 5 <= nm 5 0 /\ nm 5 0 < hi 5 := a1;rw [show (.bool false : AV) = AV.bool false from rfl, zib] at a1
  obtain ⟨a2, b2, c2⟩ := hK.lh 9 (m 9 (by decide)) rfl;have a2 : Am.look (nm 9 0) hp' = some (nm 9 1, .cells (zeu ((c.ins.length : Nat) : Int).toNat [.bool false])) /\ lo 9 <= nm 9 0 /\ nm 9 0 < hi 9 := a2;rw [show (.bool false : AV) = AV.bool false from rfl, zib] at a2
  obtain ⟨a3, b3, c3⟩ := hK.lh 13 (m 13 (by decide)) rfl;have a3 : Am.look (nm 13 0) hp' = some (nm 13 1, .cells (zeu ((c.sg.length : Nat) : Int).toNat [.bool false])) /\ lo 13 <= nm 13 0 /\ nm 13 0 < hi 13 := a3;rw [show (.bool false : AV) = AV.bool false from rfl, zib] at a3
  obtain ⟨a4, b4, c4⟩ := hK.lh 17 (m 17 (by decide)) rfl;have a4 : Am.look (nm 17 0) hp' = some (nm 17 1, .cells (zeu ((c.sg.length : Nat) : Int).toNat [.int .i64 0])) /\ lo 17 <= nm 17 0 /\ nm 17 0 < hi 17 := a4;rw [show (.int .i64 0 : AV) = AV.int .i64 0 from rfl, zib] at a4
  obtain ⟨ab, bb, cb⟩ := hK.lh 19 (m 19 (by decide)) rfl;have ab : Am.look (nm 19 0) hp' = some (nm 19 1, .cells zf1) /\ lo 19 <= nm 19 0 /\ nm 19 0 < hi 19 := ab;have hall : ∀ g, g < 5 -> ∃ j, j < 20 /\ (j = 2 /\ g = 0 \/ j = 5 /\ g = 1 \/ j = 9 /\ g = 2 \/ j = 13 /\ g = 3 \/ j = 17 /\ g = 4) /\ (rg38 c).qv j = .l /\ lo j <= (fun g => match g with | 0 => nm 2 0 | 1 => nm 5 0 | 2 => nm 9 0 | 3 => nm 13 0 | _ => nm 17 0 : Nat -> Nat) g /\ (fun g => match g with | 0 => nm 2 0 | 1 => nm 5 0 | 2 => nm 9 0 | 3 => nm 13 0 | _ => nm 17 0 : Nat -> Nat) g < hi j := fun g hg => by
   match g, hg with
   | 0, _ => exact ⟨2, by decide, by decide, rfl, a0.2⟩
   | 1, _ => exact ⟨5, by decide, by decide, rfl, a1.2⟩
   | 2, _ => exact ⟨9, by decide, by decide, rfl, a2.2⟩
   | 3, _ => exact ⟨13, by decide, by decide, rfl, a3.2⟩
   | 4, _ => exact ⟨17, by decide, by decide, rfl, a4.2⟩
  refine ⟨l, hp', nx', ck', fun g => match g with | 0 => nm 2 0 | 1 => nm 5 0 | 2 => nm 9 0 | 3 => nm 13 0 | _ => nm 17 0, fun g => match g with | 0 => nm 2 1 | 1 => nm 5 1 | 2 => nm 9 1 | 3 => nm 13 1 | _ => nm 17 1, fun g => match g with | 0 => (.ms (nm 2 0) (nm 2 1) 1 0 c.act.toNat (some c.act.toNat)) | 1 => (.ms (nm 5 0) (nm 5 1) 1 0 c.act.toNat (some c.act.toNat)) | 2 => (.ms (nm 9 0) (nm 9 1) 1 0 ((c.ins.length : Nat) : Int).toNat (some ((c.ins.length : Nat) : Int).toNat)) | 3 => (.ms (nm 13 0) (nm 13 1) 1 0 ((c.sg.length : Nat) : Int).toNat (some ((c.sg.length : Nat) : Int).toNat)) | _ => (.ms (nm 17 0) (nm 17 1) 1 0 ((c.sg.length : Nat) : Int).toNat (some ((c.sg.length : Nat) : Int).toNat)), nm 19 0, nm 19 1, rfl, hK.bs, hK.lv 19 (m 19 (by decide)) rfl, y0u bb ab.2.1, y09 ab.2.2 cb, hK.ol, ⟨?_, ?_, ?_, ?_, ?_, fun i j hi hj e => ?_⟩, fun i hi e => ?_, fun i hi => ?_, fun _ => ⟨ab.1, hK.q 18 _ (m 18 (by decide)) rfl⟩, fun h => absurd h (by show ¬ 20 = 21; decide)⟩
  ·exact ⟨⟨_, congrArg (fun n => AV.ms _ _ 1 0 n _) (show c.act.toNat = _ from ((zsk _).trans (y27 ..)).symm)⟩, a0.1, y0u b0 a0.2.1, y09 a0.2.2 c0⟩
  ·exact ⟨⟨_, congrArg (fun n => AV.ms _ _ 1 0 n _) (show c.act.toNat = _ from ((zd0 _).trans (y27 ..)).symm)⟩, a1.1, y0u b1 a1.2.1, y09 a1.2.2 c1⟩
  ·exact ⟨⟨_, congrArg (fun n => AV.ms _ _ 1 0 n _) (show ((c.ins.length : Nat) : Int).toNat = _ from ((zd0 _).trans (y27 ..)).symm)⟩, a2.1, y0u b2 a2.2.1, y09 a2.2.2 c2⟩
  ·exact ⟨⟨_, congrArg (fun n => AV.ms _ _ 1 0 n _) (show ((c.sg.length : Nat) : Int).toNat = _ from ((zd0 _).trans (y27 ..)).symm)⟩, a3.1, y0u b3 a3.2.1, y09 a3.2.2 c3⟩
  ·exact ⟨⟨_, congrArg (fun n => AV.ms _ _ 1 0 n _) (show ((c.sg.length : Nat) : Int).toNat = _ from ((zsk _).trans (y27 ..)).symm)⟩, a4.1, y0u b4 a4.2.1, y09 a4.2.2 c4⟩
  ·obtain ⟨a, ha, ea, a1, a2, a3⟩ := hall i hi;obtain ⟨b, hb, eb, b1, b2, b3⟩ := hall j hj;dsimp only at a2 a3 b2 b3 e;by_cases hab : a = b
   ·omega
   ·have := hK.ij a b (m a ha) (m b hb) a1 b1 hab;omega
  ·obtain ⟨a, ha, ea, a1, a2, a3⟩ := hall i hi;dsimp only at a2 a3 e;have := hK.ij a 19 (m a ha) (m 19 (by decide)) a1 rfl (by omega);have e1 := ab.2.1;have e2 := ab.2.2;omega
  ·match i, hi with
   | 0, _ => rfl
   | 1, _ => rfl
   | 2, _ => rfl
   | 3, _ => rfl
   | 4, _ => rfl
 ·rintro j h1 h2 S ⟨l, hp', nx3, ck3, n, t, w, nb, sb, rfl, hbs, l3, k1, k2, ho, hV, hne, hw, k5, _⟩ m1 D go;have h1 : 20 <= j := h1;obtain rfl : j = 20 := by omega
  obtain ⟨k5, q5⟩ := k5 rfl;have hkp : ∀ j, j ≠ nb -> Am.look j (zap nb (sb, .cells (setAt 0 zf1 [w 0, w 1, w 2, w 3, w 4])) hp') = Am.look j hp' := fun j hj => by rw [za0, if_neg fun e => hj e.symm]
  refine zik rfl (zf8 l3 q5 rfl rfl k5 rfl ?_) (go _ ⟨l, _, _, _, n, t, w, nb, sb, rfl, hbs, l3, k1, k2, fun j hj => ?_, ?_, hne, hw, fun h => absurd h (by decide), fun _ => ?_⟩)
  ·show ([w 0, w 1, w 2, w 3, w 4] : List AV).all AV.isCell = true;simp only [y1s, y2l, hw 0 (by decide), hw 1 (by decide), hw 2 (by decide), hw 3 (by decide), hw 4 (by decide)];rfl
  ·rw [hkp j (by omega)]; exact ho j hj
  ·exact ⟨hV.w0.of (y08 _) (hkp _ (hne 0 (by decide))), hV.w1.of (y08 _) (hkp _ (hne 1 (by decide))), hV.w2.of (y08 _) (hkp _ (hne 2 (by decide))), hV.w3.of (y08 _) (hkp _ (hne 3 (by decide))), hV.w4.of (y08 _) (hkp _ (hne 4 (by decide))), hV.ij⟩
  ·rw [za0, if_pos rfl]; rfl
 ·rintro S ⟨l, hp', nx3, ck3, n, t, w, nb, sb, rfl, hbs, l3, k1, k2, ho, hV, hne, hw, _, k5⟩;refine Um.ok (zau (zpe (md := none) (zb9 ?_) (go hp' nx3 ck3 n t w nb sb k1 k2 ho (k5 rfl) hV hne)));exact .cons (hbs _ _ (y01 ..)) (.cons (hbs _ _ (me 1 rfl)) (.cons l3 .nil))
end Go.Proofs.YtdolbghhcijonaaGreat
