/-
  THE CHOICES OF A STEP, in guard.Danger: both loops, and the choices as contents.
-/
import Derived.Test.YtoiblgbaeglgoaaXS15
namespace Go.Proofs.Ytoiblgbaeglgoaa
open Go Go.Am
def lv5 (E : List Bool) : zgj := [(none, [.int .i64 0]), (none, [.nils]), (none, [.bool false]), (none, [.int .i64 0]), (none, (enE E).map (AV.int .i64))]
noncomputable def zmh (y : IC) : IC := .seq (.region [⟨(some 13), .mov (.c (.nils)), none⟩] none)
 (.seq (.seq (.region [⟨(some 45), .mov (.t 10), none⟩,
  ⟨(some 46), .len false (.t 45), none⟩,
  ⟨(some 47), .mov (.c (.int .i64 0)), none⟩] none)
 (.block 2 (.loop zkz)))
 (.seq (.seq (.region [⟨(some 57), .faddr 0 (.t 12), none⟩,
  ⟨(some 58), .load none (.t 57), none⟩,
  ⟨(some 59), .len false (.t 58), none⟩,
  ⟨(some 60), .mov (.c (.int .i64 0)), none⟩] none)
 (.block 4 (.loop zl0))) y))
def zrg (f : List Ex) (n : Int) (l : List Sp) (i m : Nat) (r : List (Nat × AV)) : List (Nat × AV) :=
 (2, .vptr [.vs (cXs f)]) :: (3, .vptr [.int .i64 n, .vs (cPs l)]) :: (4, .mptr 0 0 0) :: (5, .mptr 1 0 0) :: (6, .mptr 2 0 0) :: (7, .mptr 3 0 0) :: (10, .ms 4 0 1 0 m (some m)) :: (38, .vs (cPs l)) :: (39, .int .i64 (cPs l).length) :: (40, .int .i64 (i : Nat)) :: (11, .vptr [.int .i64 (i : Nat)]) :: r
theorem rl18 {live : zgj} {fz : List (Nat × Nat × List AV)} {la r : List (Nat × AV)} {f : List Ex} {n : Int} {l : List Sp} {i : Nat} {m : Nat} {c0 c1 c2 c3 c4 : List AV}
  (h2 : zc8 2 la = some (.vptr [.vs (cXs f)])) (h3 : zc8 3 la = some (.vptr [.int .i64 n, .vs (cPs l)])) (h4 : zc8 4 la = some (.mptr 0 0 0)) (h5 : zc8 5 la = some (.mptr 1 0 0)) (h6 : zc8 6 la = some (.mptr 2 0 0)) (h7 : zc8 7 la = some (.mptr 3 0 0)) (h10 : zc8 10 la = some (.ms 4 0 1 0 m (some m))) (h38 : zc8 38 la = some (.vs (cPs l))) (h39 : zc8 39 la = some (.int .i64 (cPs l).length)) (h40 : zc8 40 la = some (.int .i64 (i : Nat))) (h11 : zc8 11 la = some (.vptr [.int .i64 (i : Nat)]))
  (l0 : live[0]? = some (some (0, 0), c0)) (l1 : live[1]? = some (some (1, 0), c1)) (l2 : live[2]? = some (some (2, 0), c2)) (l3 : live[3]? = some (some (3, 0), c3)) (l4 : live[4]? = some (some (4, 0), c4)) (hr : RnA live fz la r) : RnA live fz la (zrg f n l i m r) :=
 .cons h2 (.same rfl) (.cons h3 (.same rfl) (.cons h4 (.mptr l0) (.cons h5 (.mptr l1) (.cons h6 (.mptr l2) (.cons h7 (.mptr l3) (.cons h10 (.ms l4) (.cons h38 (.same rfl) (.cons h39 (.same rfl) (.cons h40 (.same rfl) (.cons h11 (.same rfl) hr))))))))))
section
variable {w0 : World} {N0 : Nat} {k : List Fr} {Q : Exit → AS → Prop}
set_option maxHeartbeats 4000000 in
theorem cho1 (f : List Ex) (n : Int) (l : List Sp) (i : Nat) (sk : List Sk) (hsk : sk.length ≤ 6) (w : Int) (b0 : Bool) (q : Nat) {y : IC} (ok : Fit18 1 (chA [b0]) (List.replicate 1 (some 1)) [b0] sk)
  (fin : Zm Try.prog w0 N0 none y (st 97 (zrg f n l i 1 [(13, css (chS (chA [b0]) sk))]) (zc9 0 (lv5 (aft [b0] sk)) ++ zcc 5 q) (q + 5) 1 (ze5 5 q)) k Q) :
  Zm Try.prog w0 N0 none (zmh y) (st 97 (b18 f n l i sk w 1 []) (zc9 0 (lv5 [b0]) ++ zcc 5 q) (q + 5) 1 (ze5 5 q)) k Q := by
 unfold zmh
 repeat (first | refine za6 ?_ | refine za0 rfl ?_ | refine za3 ?_ | refine za2 ?_ | refine zad ?_ | refine za4 rfl ?_ | refine zb9 rfl rfl ?_)
 refine zq (zan q 5) (lvF [b0] [(none, [])]) [] (b18 f n l i sk w 1 [(13, .ms 5 0 1 0 0 none), (45, .ms 4 0 1 0 1 (some 1)), (46, .int .i64 1), (47, .int .i64 ((0 : Nat) : Int))]) rfl .nil (zff rfl rfl rfl rfl rfl (.new .nil)) (zgu rfl rfl rfl rfl rfl rfl rfl rfl rfl rfl rfl rfl rfl rfl rfl rfl rfl (.cons rfl (.grow rfl) (.cons rfl (.ms rfl) (.cons rfl (.same rfl) (.cons rfl (.same rfl) .nil))))) ?_
 refine loopA1 f n l i sk w b0 q ?_
 repeat (first | refine za6 ?_ | refine za0 rfl ?_ | refine za3 ?_ | refine za2 ?_ | refine zad ?_ | refine za4 rfl ?_ | refine za8 rfl rfl ?_ | refine zah rfl rfl rfl ?_ | refine zb9 rfl rfl ?_)
 refine zen (zao (.cons rfl (.cons rfl (.cons rfl (.cons rfl (.cons rfl (.cons rfl (.cons rfl (.cons rfl (.cons rfl (.cons rfl (.cons rfl (.cons rfl (.cons rfl (.cons rfl (.cons rfl (.cons rfl .nil))))))))))))))))) (loopB1 f n l i sk hsk w (chA [b0]) (List.replicate 1 (some 1)) [b0] q ok fun ks E2 hks hE2 => ?_)
 subst hE2
 have hlE : (aft [b0] sk).length = 1 := by rw [zc6]; rfl
 have hlC : (chS (chA [b0]) sk).length = 1 := by rw [ze2]; rfl
 generalize aft [b0] sk = E2 at *
 generalize chS (chA [b0]) sk = C at *
 obtain ⟨c0, rfl⟩ := len1 hlC
 obtain ⟨k0, rfl⟩ := len1 hks
 obtain ⟨e0, rfl⟩ := len1 hlE
 refine zq (zan q (6 + 1)) (lvF [e0] [(some (5, 0), zsu [c0])]) [(6, 0, c0.map (AV.int .i64))] (zrg f n l i 1 [(13, .ms 5 0 1 0 1 none)]) rfl (.cons rfl (zai _) .nil) (zff rfl rfl rfl rfl rfl (.cons rfl (.cons (.fms0 rfl (by rw [List.length_map]) (fun y hy => by obtain ⟨z, _, rfl⟩ := List.mem_map.1 hy; rfl) (zd7 _)) .nil) .nil)) (rl18 rfl rfl rfl rfl rfl rfl rfl rfl rfl rfl rfl rfl rfl rfl rfl rfl (.cons rfl (.ms rfl) .nil)) ?_
 exact zq (zan q 6) (lvF [e0] []) [(5, 0, zsu [c0])] (zrg f n l i 1 [(13, css [c0])]) rfl (.cons rfl (zge _) .nil) (zff rfl rfl rfl rfl rfl .nil) (rl18 rfl rfl rfl rfl rfl rfl rfl rfl rfl rfl rfl rfl rfl rfl rfl rfl (.cons rfl (by rw [zmk]; exact .fms1 rfl rfl) .nil)) fin
set_option maxHeartbeats 4000000 in
theorem cho2 (f : List Ex) (n : Int) (l : List Sp) (i : Nat) (sk : List Sk) (hsk : sk.length ≤ 6) (w : Int) (b0 b1 : Bool) (q : Nat) {y : IC} (ok : Fit18 2 (chA [b0, b1]) (List.replicate 2 (some 1)) [b0, b1] sk)
  (fin : Zm Try.prog w0 N0 none y (st 97 (zrg f n l i 2 [(13, css (chS (chA [b0, b1]) sk))]) (zc9 0 (lv5 (aft [b0, b1] sk)) ++ zcc 5 q) (q + 5) 1 (ze5 5 q)) k Q) :
  Zm Try.prog w0 N0 none (zmh y) (st 97 (b18 f n l i sk w 2 []) (zc9 0 (lv5 [b0, b1]) ++ zcc 5 q) (q + 5) 1 (ze5 5 q)) k Q := by
 unfold zmh
 repeat (first | refine za6 ?_ | refine za0 rfl ?_ | refine za3 ?_ | refine za2 ?_ | refine zad ?_ | refine za4 rfl ?_ | refine zb9 rfl rfl ?_)
 refine zq (zan q 5) (lvF [b0, b1] [(none, [])]) [] (b18 f n l i sk w 2 [(13, .ms 5 0 1 0 0 none), (45, .ms 4 0 1 0 2 (some 2)), (46, .int .i64 2), (47, .int .i64 ((0 : Nat) : Int))]) rfl .nil (zff rfl rfl rfl rfl rfl (.new .nil)) (zgu rfl rfl rfl rfl rfl rfl rfl rfl rfl rfl rfl rfl rfl rfl rfl rfl rfl (.cons rfl (.grow rfl) (.cons rfl (.ms rfl) (.cons rfl (.same rfl) (.cons rfl (.same rfl) .nil))))) ?_
 refine loopA2 f n l i sk w b0 b1 q ?_
 repeat (first | refine za6 ?_ | refine za0 rfl ?_ | refine za3 ?_ | refine za2 ?_ | refine zad ?_ | refine za4 rfl ?_ | refine za8 rfl rfl ?_ | refine zah rfl rfl rfl ?_ | refine zb9 rfl rfl ?_)
 refine zen (zao (.cons rfl (.cons rfl (.cons rfl (.cons rfl (.cons rfl (.cons rfl (.cons rfl (.cons rfl (.cons rfl (.cons rfl (.cons rfl (.cons rfl (.cons rfl (.cons rfl (.cons rfl (.cons rfl .nil))))))))))))))))) (loopB2 f n l i sk hsk w (chA [b0, b1]) (List.replicate 2 (some 1)) [b0, b1] q ok fun ks E2 hks hE2 => ?_)
 subst hE2
 have hlE : (aft [b0, b1] sk).length = 2 := by rw [zc6]; rfl
 have hlC : (chS (chA [b0, b1]) sk).length = 2 := by rw [ze2]; rfl
 generalize aft [b0, b1] sk = E2 at *
 generalize chS (chA [b0, b1]) sk = C at *
 obtain ⟨c0, c1, rfl⟩ := len2 hlC
 obtain ⟨k0, k1, rfl⟩ := len2 hks
 obtain ⟨e0, e1, rfl⟩ := len2 hlE
 refine zq (zan q (6 + 2)) (lvF [e0, e1] [(some (5, 0), zsu [c0, c1])]) [(6, 0, c0.map (AV.int .i64)), (7, 0, c1.map (AV.int .i64))] (zrg f n l i 2 [(13, .ms 5 0 1 0 2 none)]) rfl (.cons rfl (zai _) (.cons rfl (zai _) .nil)) (zff rfl rfl rfl rfl rfl (.cons rfl (.cons (.fms0 rfl (by rw [List.length_map]) (fun y hy => by obtain ⟨z, _, rfl⟩ := List.mem_map.1 hy; rfl) (zd7 _)) (.cons (.fms0 rfl (by rw [List.length_map]) (fun y hy => by obtain ⟨z, _, rfl⟩ := List.mem_map.1 hy; rfl) (zd7 _)) .nil)) .nil)) (rl18 rfl rfl rfl rfl rfl rfl rfl rfl rfl rfl rfl rfl rfl rfl rfl rfl (.cons rfl (.ms rfl) .nil)) ?_
 exact zq (zan q 6) (lvF [e0, e1] []) [(5, 0, zsu [c0, c1])] (zrg f n l i 2 [(13, css [c0, c1])]) rfl (.cons rfl (zge _) .nil) (zff rfl rfl rfl rfl rfl .nil) (rl18 rfl rfl rfl rfl rfl rfl rfl rfl rfl rfl rfl rfl rfl rfl rfl rfl (.cons rfl (by rw [zmk]; exact .fms1 rfl rfl) .nil)) fin
set_option maxHeartbeats 4000000 in
theorem cho3 (f : List Ex) (n : Int) (l : List Sp) (i : Nat) (sk : List Sk) (hsk : sk.length ≤ 6) (w : Int) (b0 b1 b2 : Bool) (q : Nat) {y : IC} (ok : Fit18 3 (chA [b0, b1, b2]) (List.replicate 3 (some 1)) [b0, b1, b2] sk)
  (fin : Zm Try.prog w0 N0 none y (st 97 (zrg f n l i 3 [(13, css (chS (chA [b0, b1, b2]) sk))]) (zc9 0 (lv5 (aft [b0, b1, b2] sk)) ++ zcc 5 q) (q + 5) 1 (ze5 5 q)) k Q) :
  Zm Try.prog w0 N0 none (zmh y) (st 97 (b18 f n l i sk w 3 []) (zc9 0 (lv5 [b0, b1, b2]) ++ zcc 5 q) (q + 5) 1 (ze5 5 q)) k Q := by
 unfold zmh
 repeat (first | refine za6 ?_ | refine za0 rfl ?_ | refine za3 ?_ | refine za2 ?_ | refine zad ?_ | refine za4 rfl ?_ | refine zb9 rfl rfl ?_)
 refine zq (zan q 5) (lvF [b0, b1, b2] [(none, [])]) [] (b18 f n l i sk w 3 [(13, .ms 5 0 1 0 0 none), (45, .ms 4 0 1 0 3 (some 3)), (46, .int .i64 3), (47, .int .i64 ((0 : Nat) : Int))]) rfl .nil (zff rfl rfl rfl rfl rfl (.new .nil)) (zgu rfl rfl rfl rfl rfl rfl rfl rfl rfl rfl rfl rfl rfl rfl rfl rfl rfl (.cons rfl (.grow rfl) (.cons rfl (.ms rfl) (.cons rfl (.same rfl) (.cons rfl (.same rfl) .nil))))) ?_
 refine loopA3 f n l i sk w b0 b1 b2 q ?_
 repeat (first | refine za6 ?_ | refine za0 rfl ?_ | refine za3 ?_ | refine za2 ?_ | refine zad ?_ | refine za4 rfl ?_ | refine za8 rfl rfl ?_ | refine zah rfl rfl rfl ?_ | refine zb9 rfl rfl ?_)
 refine zen (zao (.cons rfl (.cons rfl (.cons rfl (.cons rfl (.cons rfl (.cons rfl (.cons rfl (.cons rfl (.cons rfl (.cons rfl (.cons rfl (.cons rfl (.cons rfl (.cons rfl (.cons rfl (.cons rfl .nil))))))))))))))))) (loopB3 f n l i sk hsk w (chA [b0, b1, b2]) (List.replicate 3 (some 1)) [b0, b1, b2] q ok fun ks E2 hks hE2 => ?_)
 subst hE2
 have hlE : (aft [b0, b1, b2] sk).length = 3 := by rw [zc6]; rfl
 have hlC : (chS (chA [b0, b1, b2]) sk).length = 3 := by rw [ze2]; rfl
 generalize aft [b0, b1, b2] sk = E2 at *
 generalize chS (chA [b0, b1, b2]) sk = C at *
 obtain ⟨c0, c1, c2, rfl⟩ := len3 hlC
 obtain ⟨k0, k1, k2, rfl⟩ := len3 hks
 obtain ⟨e0, e1, e2, rfl⟩ := len3 hlE
 refine zq (zan q (6 + 3)) (lvF [e0, e1, e2] [(some (5, 0), zsu [c0, c1, c2])]) [(6, 0, c0.map (AV.int .i64)), (7, 0, c1.map (AV.int .i64)), (8, 0, c2.map (AV.int .i64))] (zrg f n l i 3 [(13, .ms 5 0 1 0 3 none)]) rfl (.cons rfl (zai _) (.cons rfl (zai _) (.cons rfl (zai _) .nil))) (zff rfl rfl rfl rfl rfl (.cons rfl (.cons (.fms0 rfl (by rw [List.length_map]) (fun y hy => by obtain ⟨z, _, rfl⟩ := List.mem_map.1 hy; rfl) (zd7 _)) (.cons (.fms0 rfl (by rw [List.length_map]) (fun y hy => by obtain ⟨z, _, rfl⟩ := List.mem_map.1 hy; rfl) (zd7 _)) (.cons (.fms0 rfl (by rw [List.length_map]) (fun y hy => by obtain ⟨z, _, rfl⟩ := List.mem_map.1 hy; rfl) (zd7 _)) .nil))) .nil)) (rl18 rfl rfl rfl rfl rfl rfl rfl rfl rfl rfl rfl rfl rfl rfl rfl rfl (.cons rfl (.ms rfl) .nil)) ?_
 exact zq (zan q 6) (lvF [e0, e1, e2] []) [(5, 0, zsu [c0, c1, c2])] (zrg f n l i 3 [(13, css [c0, c1, c2])]) rfl (.cons rfl (zge _) .nil) (zff rfl rfl rfl rfl rfl .nil) (rl18 rfl rfl rfl rfl rfl rfl rfl rfl rfl rfl rfl rfl rfl rfl rfl rfl (.cons rfl (by rw [zmk]; exact .fms1 rfl rfl) .nil)) fin
set_option maxHeartbeats 4000000 in
theorem cho4 (f : List Ex) (n : Int) (l : List Sp) (i : Nat) (sk : List Sk) (hsk : sk.length ≤ 6) (w : Int) (b0 b1 b2 b3 : Bool) (q : Nat) {y : IC} (ok : Fit18 4 (chA [b0, b1, b2, b3]) (List.replicate 4 (some 1)) [b0, b1, b2, b3] sk)
  (fin : Zm Try.prog w0 N0 none y (st 97 (zrg f n l i 4 [(13, css (chS (chA [b0, b1, b2, b3]) sk))]) (zc9 0 (lv5 (aft [b0, b1, b2, b3] sk)) ++ zcc 5 q) (q + 5) 1 (ze5 5 q)) k Q) :
  Zm Try.prog w0 N0 none (zmh y) (st 97 (b18 f n l i sk w 4 []) (zc9 0 (lv5 [b0, b1, b2, b3]) ++ zcc 5 q) (q + 5) 1 (ze5 5 q)) k Q := by
 unfold zmh
 repeat (first | refine za6 ?_ | refine za0 rfl ?_ | refine za3 ?_ | refine za2 ?_ | refine zad ?_ | refine za4 rfl ?_ | refine zb9 rfl rfl ?_)
 refine zq (zan q 5) (lvF [b0, b1, b2, b3] [(none, [])]) [] (b18 f n l i sk w 4 [(13, .ms 5 0 1 0 0 none), (45, .ms 4 0 1 0 4 (some 4)), (46, .int .i64 4), (47, .int .i64 ((0 : Nat) : Int))]) rfl .nil (zff rfl rfl rfl rfl rfl (.new .nil)) (zgu rfl rfl rfl rfl rfl rfl rfl rfl rfl rfl rfl rfl rfl rfl rfl rfl rfl (.cons rfl (.grow rfl) (.cons rfl (.ms rfl) (.cons rfl (.same rfl) (.cons rfl (.same rfl) .nil))))) ?_
 refine loopA4 f n l i sk w b0 b1 b2 b3 q ?_
 repeat (first | refine za6 ?_ | refine za0 rfl ?_ | refine za3 ?_ | refine za2 ?_ | refine zad ?_ | refine za4 rfl ?_ | refine za8 rfl rfl ?_ | refine zah rfl rfl rfl ?_ | refine zb9 rfl rfl ?_)
 refine zen (zao (.cons rfl (.cons rfl (.cons rfl (.cons rfl (.cons rfl (.cons rfl (.cons rfl (.cons rfl (.cons rfl (.cons rfl (.cons rfl (.cons rfl (.cons rfl (.cons rfl (.cons rfl (.cons rfl .nil))))))))))))))))) (loopB4 f n l i sk hsk w (chA [b0, b1, b2, b3]) (List.replicate 4 (some 1)) [b0, b1, b2, b3] q ok fun ks E2 hks hE2 => ?_)
 subst hE2
 have hlE : (aft [b0, b1, b2, b3] sk).length = 4 := by rw [zc6]; rfl
 have hlC : (chS (chA [b0, b1, b2, b3]) sk).length = 4 := by rw [ze2]; rfl
 generalize aft [b0, b1, b2, b3] sk = E2 at *
 generalize chS (chA [b0, b1, b2, b3]) sk = C at *
 obtain ⟨c0, c1, c2, c3, rfl⟩ := len4 hlC
 obtain ⟨k0, k1, k2, k3, rfl⟩ := len4 hks
 obtain ⟨e0, e1, e2, e3, rfl⟩ := len4 hlE
 refine zq (zan q (6 + 4)) (lvF [e0, e1, e2, e3] [(some (5, 0), zsu [c0, c1, c2, c3])]) [(6, 0, c0.map (AV.int .i64)), (7, 0, c1.map (AV.int .i64)), (8, 0, c2.map (AV.int .i64)), (9, 0, c3.map (AV.int .i64))] (zrg f n l i 4 [(13, .ms 5 0 1 0 4 none)]) rfl (.cons rfl (zai _) (.cons rfl (zai _) (.cons rfl (zai _) (.cons rfl (zai _) .nil)))) (zff rfl rfl rfl rfl rfl (.cons rfl (.cons (.fms0 rfl (by rw [List.length_map]) (fun y hy => by obtain ⟨z, _, rfl⟩ := List.mem_map.1 hy; rfl) (zd7 _)) (.cons (.fms0 rfl (by rw [List.length_map]) (fun y hy => by obtain ⟨z, _, rfl⟩ := List.mem_map.1 hy; rfl) (zd7 _)) (.cons (.fms0 rfl (by rw [List.length_map]) (fun y hy => by obtain ⟨z, _, rfl⟩ := List.mem_map.1 hy; rfl) (zd7 _)) (.cons (.fms0 rfl (by rw [List.length_map]) (fun y hy => by obtain ⟨z, _, rfl⟩ := List.mem_map.1 hy; rfl) (zd7 _)) .nil)))) .nil)) (rl18 rfl rfl rfl rfl rfl rfl rfl rfl rfl rfl rfl rfl rfl rfl rfl rfl (.cons rfl (.ms rfl) .nil)) ?_
 exact zq (zan q 6) (lvF [e0, e1, e2, e3] []) [(5, 0, zsu [c0, c1, c2, c3])] (zrg f n l i 4 [(13, css [c0, c1, c2, c3])]) rfl (.cons rfl (zge _) .nil) (zff rfl rfl rfl rfl rfl .nil) (rl18 rfl rfl rfl rfl rfl rfl rfl rfl rfl rfl rfl rfl rfl rfl rfl rfl (.cons rfl (by rw [zmk]; exact .fms1 rfl rfl) .nil)) fin
theorem zub (f : List Ex) (n : Int) (l : List Sp) (i : Nat) (sk : List Sk) (hsk : sk.length ≤ 6) (w : Int) (E : List Bool) (m : Nat) (hE : E.length = m) (h1 : 1 ≤ m) (h4 : m ≤ 4) (q : Nat) {y : IC} (ok : Fit18 m (chA E) (List.replicate m (some 1)) E sk)
  (fin : Zm Try.prog w0 N0 none y (st 97 (zrg f n l i m [(13, css (chS (chA E) sk))]) (zc9 0 (lv5 (aft E sk)) ++ zcc 5 q) (q + 5) 1 (ze5 5 q)) k Q) :
  Zm Try.prog w0 N0 none (zmh y) (st 97 (b18 f n l i sk w m []) (zc9 0 (lv5 E) ++ zcc 5 q) (q + 5) 1 (ze5 5 q)) k Q := by
 rcases (show m = 1 ∨ m = 2 ∨ m = 3 ∨ m = 4 by omega) with rfl | rfl | rfl | rfl
 ·obtain ⟨b0, rfl⟩ := len1 hE
  exact cho1 f n l i sk hsk w b0 q ok fin
 ·obtain ⟨b0, b1, rfl⟩ := len2 hE
  exact cho2 f n l i sk hsk w b0 b1 q ok fin
 ·obtain ⟨b0, b1, b2, rfl⟩ := len3 hE
  exact cho3 f n l i sk hsk w b0 b1 b2 q ok fin
 ·obtain ⟨b0, b1, b2, b3, rfl⟩ := len4 hE
  exact cho4 f n l i sk hsk w b0 b1 b2 b3 q ok fin
end
end Go.Proofs.Ytoiblgbaeglgoaa
