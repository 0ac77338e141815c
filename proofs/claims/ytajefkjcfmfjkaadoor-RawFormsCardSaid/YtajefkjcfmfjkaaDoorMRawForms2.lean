/- The texts of the proof of 'RawForms', joined: each part is a text of its own in wip; what the law does not use is left out. -/
import Derived.Test.YtajefkjcfmfjkaaDoorMRawForms1
namespace Go.Proofs.YtajefkjcfmfjkaaDoor
section
set_option linter.unusedVariables false
set_option linter.unusedSimpArgs false
set_option linter.deprecated false
open Go.RowKit Go.Proofs.YtajefkjcfmfjkaaDoorW.PrintWords Go.Proofs.YtajefkjcfmfjkaaDoor.PRawForms
set_option linter.unusedVariables false
theorem own_slice3 {w : World} {base n : Nat} {e : TypeId} {size : Nat} {v : Value} {xs : List Value} (h : w.ownsRow base e size v n xs) : ∃ A N c, v = .slice A N c := by
  obtain ⟨A, c, e⟩ := own_slice h
  exact ⟨A, n, c, e⟩
theorem in_ev (ql : List ByteArray) (x : ByteArray) (h : ql.length ≤ 1000000000) : Ev (fun k => lfcheckref02_In.f k ql x) (inQ ql x) := by
  have loop : ∀ (d i : Nat), ql.length - i ≤ d → i ≤ ql.length → Ev (fun k => lfcheckref02_In.l0 k ql x (i : Int)) (inQ (ql.drop i) x) := by
    intro d
    induction d with
    | zero =>
      intro i hd hi
      obtain rfl : i = ql.length := by omega
      rw [List.drop_length]
      refine Ev.step (fun k => ?_) (Ev.now _)
      simp only [lfcheckref02_In.l0]; rw [if_neg (by omega)]; rfl
    | succ d ihd =>
      intro i hd hi
      by_cases hlt : i < ql.length
      · have he : rdOf ByteArray.empty ql (i : Int) = ql[i] := by simp [rdOf, List.getD_eq_getElem?_getD, List.getElem?_eq_getElem hlt]
        have hq : inQ (ql.drop i) x = (eqB ql[i] x || inQ (ql.drop (i + 1)) x) := by
          rw [List.drop_eq_getElem_cons hlt]; rfl
        rw [hq]
        by_cases hx : ql[i] = x
        · rw [(eqB_iff _ _).2 hx, Bool.true_or]
          refine Ev.step (fun k => ?_) (Ev.now _)
          simp only [lfcheckref02_In.l0]; rw [if_pos (by omega), if_pos (by omega), he, if_pos ((str_eq_iff _ _).2 hx)]
        · rw [eqB_ne hx, Bool.false_or]
          refine Ev.step (fun k => ?_) (ihd (i + 1) (by omega) (by omega))
          simp only [lfcheckref02_In.l0]; rw [if_pos (by omega), if_pos (by omega), he, if_neg (fun h => hx ((str_eq_iff _ _).1 h)), w64p (by omega) (by omega)]; rfl
      · obtain rfl : i = ql.length := by omega
        rw [List.drop_length]
        refine Ev.step (fun k => ?_) (Ev.now _)
        simp only [lfcheckref02_In.l0]; rw [if_neg (by omega)]; rfl
  have := loop ql.length 0 (by omega) (by omega)
  rw [List.drop_zero] at this
  exact this
theorem in_any (ql : List ByteArray) (A : Option Addr) (c : Nat) (x : ByteArray) (w : World) (hl : ql.length ≤ 1000000000) (hr : Kd.C Kd.string w A ql.length ql) (hc : ql.length ≤ c) :
    Calls Tryd.prog 95 #[.slice A ql.length c, .string x] w fun e w' => e = .returned (.bool (inQ ql x)) ∧ Drawn0 w w' := by
  obtain ⟨k, hk⟩ := (in_ev ql x hl).rounds
  exact lfcheckref02_In.calls k A c ql x _ w hr hc hk
set_option maxHeartbeats 4000000 in
set_option maxRecDepth 100000 in
theorem rfmt1f (w0 : World) (qA : Option Addr) (qc : Nat) (ql : List ByteArray) (n : ByteArray) (o : Int) (A : Option Addr) (m : Nat) (c : Nat) (l : List UInt8) (v : Value) (W : World)
    (hs : RfSt w0 v l W) (hn : n.size ≤ 64) (hl : l.length ≤ 100000000) (post : List UInt8) (hp : post = n.data.toList) (hr : Kd.C Kd.string w0 qA ql.length ql) (hq : inQ ql n = false) (hql : ql.length ≤ 1000) (hqc : ql.length ≤ qc) :
    Calls Tryd.prog 71 #[v, .agg #[.int .i64 1, .string n, .int .i64 o, .slice A m c], .slice qA ql.length qc] W (RfPost w0 (l ++ post) W) := by
  have RS0 := Aside0.mk (hs.alloc (.cells #[.int .i64 1, .string n, .int .i64 o, .slice A m c] 42))
  have OK0 : Aside0 (Lib.OthersKept 5 none W (W.alloc (.cells #[.int .i64 1, .string n, .int .i64 o, .slice A m c] 42))) := ⟨(Lib.OthersKept.refl _ _ W).alloc _⟩
  have hu42 := Tryd.underlying42
  have ln : n.data.toList.length = n.size := len_data n
  have HE := Aside0.mk hp
  have HC : Aside0 (∀ W', Below w0.heap.size w0 W' → Calls Tryd.prog 95 #[.slice qA ql.length qc, .string n] W' fun e w' => e = .returned (.bool false) ∧ Drawn0 W' w') := ⟨fun W' h => by have := in_any ql qA qc n W' (by omega) (Kd.C_below hr h) hqc; rwa [hq] at this⟩
  have HL0 := Aside0.mk (show l.length + n.size ≤ 100000000000 by omega)
  have OKb := Aside0.mk (Lib.OthersKept.refl 5 none (W.alloc (.cells #[.int .i64 1, .string n, .int .i64 o, .slice A m c] 42)))
  clear hs hr hq hl ln hql hqc hp
  go_enter Tryd.func71, Tryd.ntmps71
  go_wp2_with (first | (go_at_call 95; (with_reducible refine (HC.out _ ?b1).mono ?_); (case b1 => exact RS0.out.be); rintro e w' ⟨rfl, ⟨nd, rfl⟩⟩) | (at_builtin; refine rf_str rfl (.tmp 25) (.tmp 27) rfl n rfl rfl (W := (W.alloc (.cells #[.int .i64 1, .string n, .int .i64 o, .slice A m c] 42)).drewN nd) (RS0.out.below (pw_below_drewN (Below.refl _ _) _)) HL0.out ?_; intro v1 w1 r1 o1; have RS1 := Aside0.mk r1; have OK1 : Aside0 (Lib.OthersKept 5 none (W.alloc (.cells #[.int .i64 1, .string n, .int .i64 o, .slice A m c] 42)) w1) := ⟨o1⟩; clear r1 o1))
  obtain ⟨A9, N9, c9, rfl⟩ := own_slice3 RS1.out.row
  go_wp2_with fail
  go_ret
  exact ⟨_, rfl, by rw [HE.out]; exact RS1.out, OK0.out.trans OK1.out⟩
set_option maxHeartbeats 4000000 in
set_option maxRecDepth 100000 in
theorem rfmt1t (w0 : World) (qA : Option Addr) (qc : Nat) (ql : List ByteArray) (n : ByteArray) (o : Int) (A : Option Addr) (m : Nat) (c : Nat) (l : List UInt8) (v : Value) (W : World)
    (hs : RfSt w0 v l W) (hn : n.size ≤ 64) (hl : l.length ≤ 100000000) (hr : Kd.C Kd.string w0 qA ql.length ql) (hq : inQ ql n = true) (hql : ql.length ≤ 1000) (hqc : ql.length ≤ qc) (post : List UInt8) (hp : l ++ post = l ++ [40] ++ n.data.toList ++ [41]) :
    Calls Tryd.prog 71 #[v, .agg #[.int .i64 1, .string n, .int .i64 o, .slice A m c], .slice qA ql.length qc] W (RfPost w0 (l ++ post) W) := by
  have RS0 := Aside0.mk (hs.alloc (.cells #[.int .i64 1, .string n, .int .i64 o, .slice A m c] 42))
  have OK0 : Aside0 (Lib.OthersKept 5 none W (W.alloc (.cells #[.int .i64 1, .string n, .int .i64 o, .slice A m c] 42))) := ⟨(Lib.OthersKept.refl _ _ W).alloc _⟩
  have hu42 := Tryd.underlying42
  have ln : n.data.toList.length = n.size := len_data n
  have HC : Aside0 (∀ W', Below w0.heap.size w0 W' → Calls Tryd.prog 95 #[.slice qA ql.length qc, .string n] W' fun e w' => e = .returned (.bool true) ∧ Drawn0 W' w') := ⟨fun W' h => by have := in_any ql qA qc n W' (by omega) (Kd.C_below hr h) hqc; rwa [hq] at this⟩
  have HL0 := Aside0.mk (show l.length + 1 ≤ 100000000000 by omega)
  have HL1 : Aside0 ((l ++ [40]).length + n.size ≤ 100000000000) := ⟨by rw [List.length_append]; simp only [List.length_cons, List.length_nil]; omega⟩
  have HL2 : Aside0 ((l ++ [40] ++ n.data.toList).length + 1 ≤ 100000000000) := ⟨by rw [List.length_append, List.length_append, ln]; simp only [List.length_cons, List.length_nil]; omega⟩
  have HE := Aside0.mk hp
  have BX0 : Aside0 ((W.alloc (.cells #[.int .i64 1, .string n, .int .i64 o, .slice A m c] 42)).heap[W.heap.size]? = some (.cells #[.int .i64 1, .string n, .int .i64 o, .slice A m c] 42 (0, 0))) := ⟨heap_alloc_new _ _⟩
  clear hs hr hq hl ln hql hqc hp
  go_enter Tryd.func71, Tryd.ntmps71
  go_wp2_with (go_at_call 95; (with_reducible refine (HC.out _ ?b1).mono ?_); (case b1 => exact RS0.out.be); rintro e w' ⟨rfl, ⟨nd, rfl⟩⟩)
  have RSn := Aside0.mk (RS0.out.below (pw_below_drewN (Below.refl _ _) nd))
  have OKn : Aside0 (Lib.OthersKept 5 none (W.alloc (.cells #[.int .i64 1, .string n, .int .i64 o, .slice A m c] 42)) ((W.alloc (.cells #[.int .i64 1, .string n, .int .i64 o, .slice A m c] 42)).drewN nd)) := ⟨(Lib.OthersKept.refl 5 none _)⟩
  have BXn : Aside0 (((W.alloc (.cells #[.int .i64 1, .string n, .int .i64 o, .slice A m c] 42)).drewN nd).heap[W.heap.size]? = some (.cells #[.int .i64 1, .string n, .int .i64 o, .slice A m c] 42 (0, 0))) := ⟨BX0.out⟩
  have HSZ : Aside0 (((W.alloc (.cells #[.int .i64 1, .string n, .int .i64 o, .slice A m c] 42)).drewN nd).heap.size = W.heap.size + 1) := ⟨by simp⟩
  clear RS0 BX0 HC
  generalize (W.alloc (.cells #[.int .i64 1, .string n, .int .i64 o, .slice A m c] 42)).drewN nd = w1 at *
  have OKw := Aside0.mk (Lib.OthersKept.refl 5 none w1)
  have La : Aside0 (LitC (w1.alloc (.cells #[.int .u8 40] 5)) w1.heap.size [40]) := ⟨lit1 _ 40 _ rfl⟩
  have Lb : Aside0 (LitC ((w1.alloc (.cells #[.int .u8 40] 5)).alloc (.cells #[.int .u8 41] 5)) w1.heap.size [40]) := ⟨((lit_new RSn.out [40]).alloc _).2.2⟩
  have Lc : Aside0 (LitC ((w1.alloc (.cells #[.int .u8 41] 5)).alloc (.cells #[.int .u8 40] 5)) (w1.heap.size + 1) [40]) := ⟨lit1 _ 40 _ (by simp)⟩
  have Pb : Aside0 (LitAt ((w1.alloc (.cells #[.int .u8 40] 5)).alloc (.cells #[.int .u8 41] 5)) (w1.heap.size + 1) [41] v) := ⟨by have := lit_new (RSn.out.alloc (.cells #[.int .u8 40] 5)) [41]; rwa [show (w1.alloc (.cells #[.int .u8 40] 5)).heap.size = w1.heap.size + 1 by simp] at this⟩
  have Pc : Aside0 (LitAt ((w1.alloc (.cells #[.int .u8 41] 5)).alloc (.cells #[.int .u8 40] 5)) w1.heap.size [41] v) := ⟨(lit_new RSn.out [41]).alloc _⟩
  go_region_held2 (fun W' => W'.cell? ⟨W.heap.size, 1, none⟩ = some (.string n)) ((first | exact (ok_none_cell OKw.out.drew BXn.out (by decide)).trans rfl | exact (ok_none_cell (OKw.out.alloc _).drew BXn.out (by decide)).trans rfl | exact (ok_none_cell ((OKw.out.alloc _).alloc _).drew BXn.out (by decide)).trans rfl | exact (ok_none_cell OK2.out BXn.out (by decide)).trans rfl | exact (ok_none_cell (OK2.out.alloc _) BXn.out (by decide)).trans rfl | exact (ok_none_cell OK3.out BXn.out (by decide)).trans rfl | exact (ok_none_cell (OK3.out.alloc _) BXn.out (by decide)).trans rfl | exact (ok_none_cell OK4.out BXn.out (by decide)).trans rfl)) ((first | (refine rfs_lit (w0 := w0) (by rfl) (.tmp 17) (.tmp 18) rfl [40] 1 1 rfl rfl rfl (by first | exact (RSn.out.alloc _).drew | exact ((RSn.out.alloc _).alloc _).drew) (by first | exact La.out.drew | exact Lb.out.drew | exact Lc.out.drew) HL0.out ?_; intro v2 w2 r1 o1 k1; have RS2 := Aside0.mk r1; have K1 := Aside0.mk k1; have OK2 : Aside0 (Lib.OthersKept 5 none w1 w2) := ⟨by first | exact (OKw.out.alloc _).drew.trans o1 | exact ((OKw.out.alloc _).alloc _).drew.trans o1⟩; clear r1 o1 k1) | (refine rfs_str (w0 := w0) (by rfl) (.tmp 19) (.tmp 21) rfl n rfl rfl (by first | exact RS2.out | exact RS2.out.alloc _) HL1.out ?_; intro v3 w3 r1 o1 k2; have RS3 := Aside0.mk r1; have K2 := Aside0.mk k2; have OK3 : Aside0 (Lib.OthersKept 5 none w1 w3) := ⟨by first | exact OK2.out.trans o1 | exact (OK2.out.alloc _).trans o1⟩; clear r1 o1 k2) | (refine rfs_lit (w0 := w0) (by rfl) (.tmp 22) (.tmp 23) rfl [41] 1 1 rfl rfl rfl (by first | exact RS3.out | exact RS3.out.alloc _) (by first | exact lit1 _ 41 _ rfl | exact K2.out _ _ (lit_new RS2.out [41]) | exact K2.out _ _ (K1.out _ _ Pb.out) | exact K2.out _ _ (K1.out _ _ Pc.out)) HL2.out ?_; intro v4 w4 r1 o1 _; have RS4 := Aside0.mk r1; have OK4 : Aside0 (Lib.OthersKept 5 none w1 w4) := ⟨by first | exact OK3.out.trans o1 | exact (OK3.out.alloc _).trans o1⟩; clear r1 o1)))
  all_goals
    obtain ⟨A9, N9, c9, rfl⟩ := own_slice3 RS4.out.row
    clear La Lb Lc Pb Pc K1 K2 RS2 RS3 OK2 OK3
    go_wp2_with fail
    go_ret
    exact ⟨_, rfl, by rw [HE.out]; exact RS4.out, OK0.out.trans (OKn.out.trans OK4.out)⟩
set_option maxHeartbeats 4000000 in
set_option maxRecDepth 100000 in
theorem rfmt2 (w0 : World) (qA : Option Addr) (qc : Nat) (ql : List ByteArray) (n : ByteArray) (o : Int) (A : Option Addr) (m : Nat) (c : Nat) (l : List UInt8) (v : Value) (W : World)
    (hs : RfSt w0 v l W) (hn : n.size ≤ 64) (hl : l.length ≤ 100000000) (post : List UInt8) (hp : l ++ post = l ++ [64] ++ n.data.toList) :
    Calls Tryd.prog 71 #[v, .agg #[.int .i64 2, .string n, .int .i64 o, .slice A m c], .slice qA ql.length qc] W (RfPost w0 (l ++ post) W) := by
  have RS0 := Aside0.mk (hs.alloc (.cells #[.int .i64 2, .string n, .int .i64 o, .slice A m c] 42))
  have OK0 : Aside0 (Lib.OthersKept 5 none W (W.alloc (.cells #[.int .i64 2, .string n, .int .i64 o, .slice A m c] 42))) := ⟨(Lib.OthersKept.refl _ _ W).alloc _⟩
  have hu42 := Tryd.underlying42
  have ln : n.data.toList.length = n.size := len_data n
  have HL0 := Aside0.mk (show l.length + 1 ≤ 100000000000 by omega)
  have HL1 : Aside0 ((l ++ [64]).length + n.size ≤ 100000000000) := ⟨by rw [List.length_append]; simp only [List.length_cons, List.length_nil]; omega⟩
  have HE := Aside0.mk hp
  have BX0 : Aside0 ((W.alloc (.cells #[.int .i64 2, .string n, .int .i64 o, .slice A m c] 42)).heap[W.heap.size]? = some (.cells #[.int .i64 2, .string n, .int .i64 o, .slice A m c] 42 (0, 0))) := ⟨heap_alloc_new _ _⟩
  have OKb := Aside0.mk (Lib.OthersKept.refl 5 none (W.alloc (.cells #[.int .i64 2, .string n, .int .i64 o, .slice A m c] 42)))
  have L1 : Aside0 (LitC ((W.alloc (.cells #[.int .i64 2, .string n, .int .i64 o, .slice A m c] 42)).alloc (.cells #[.int .u8 64] 5)) (W.heap.size + 1) [64]) := ⟨lit1 _ 64 _ (by simp)⟩
  clear hs hl ln hp
  go_enter Tryd.func71, Tryd.ntmps71
  go_wp2_with fail
  go_region_held2 (fun W' => W'.cell? ⟨W.heap.size, 1, none⟩ = some (.string n)) ((first | exact (ok_none_cell OKb.out.drew BX0.out (by decide)).trans rfl | exact (ok_none_cell (OKb.out.alloc _).drew BX0.out (by decide)).trans rfl | exact (ok_none_cell OK1.out BX0.out (by decide)).trans rfl | exact (ok_none_cell OK2.out BX0.out (by decide)).trans rfl)) ((first | (refine rfs_lit (by rfl) (.tmp 31) (.tmp 32) rfl [64] 1 1 rfl rfl rfl (RS0.out.alloc _).drew L1.out.drew HL0.out ?_; intro v1 w1 r1 o1 _; have RS1 := Aside0.mk r1; have OK1 := Aside0.mk ((OKb.out.alloc _).drew.trans o1); clear r1 o1) | (refine rfs_str (by rfl) (.tmp 33) (.tmp 35) rfl n rfl rfl RS1.out HL1.out ?_; intro v2 w2 r1 o1 _; have RS2 := Aside0.mk r1; have OK2 := Aside0.mk (OK1.out.trans o1); clear r1 o1)))
  obtain ⟨A9, N9, c9, rfl⟩ := own_slice3 RS2.out.row
  go_wp2_with fail
  go_ret
  exact ⟨_, rfl, by rw [HE.out]; exact RS2.out, OK0.out.trans OK2.out⟩
set_option maxHeartbeats 4000000 in
set_option maxRecDepth 100000 in
theorem rfmt3 (w0 : World) (qA : Option Addr) (qc : Nat) (ql : List ByteArray) (n : ByteArray) (o : Int) (A : Option Addr) (m : Nat) (c : Nat) (l : List UInt8) (v : Value) (W : World)
    (hs : RfSt w0 v l W) (hn : n.size ≤ 64) (hl : l.length ≤ 100000000) (post : List UInt8) (hp : post = [95]) :
    Calls Tryd.prog 71 #[v, .agg #[.int .i64 3, .string n, .int .i64 o, .slice A m c], .slice qA ql.length qc] W (RfPost w0 (l ++ post) W) := by
  have RS0 := Aside0.mk (hs.alloc (.cells #[.int .i64 3, .string n, .int .i64 o, .slice A m c] 42))
  have OK0 : Aside0 (Lib.OthersKept 5 none W (W.alloc (.cells #[.int .i64 3, .string n, .int .i64 o, .slice A m c] 42))) := ⟨(Lib.OthersKept.refl _ _ W).alloc _⟩
  have hu42 := Tryd.underlying42
  have ln : n.data.toList.length = n.size := len_data n
  have HE := Aside0.mk hp
  have HL0 := Aside0.mk (show l.length + 1 ≤ 100000000000 by omega)
  have OKb := Aside0.mk (Lib.OthersKept.refl 5 none (W.alloc (.cells #[.int .i64 3, .string n, .int .i64 o, .slice A m c] 42)))
  have L1 : Aside0 (LitC ((W.alloc (.cells #[.int .i64 3, .string n, .int .i64 o, .slice A m c] 42)).alloc (.cells #[.int .u8 95] 5)) (W.heap.size + 1) [95]) := ⟨lit1 _ 95 _ (by simp)⟩
  clear hs hl ln hp
  go_enter Tryd.func71, Tryd.ntmps71
  go_wp2_with (at_builtin; refine rf_lit rfl (.tmp 39) (.tmp 40) rfl [95] 1 1 rfl rfl rfl (RS0.out.alloc _) L1.out HL0.out ?_; intro v2 w2 r1 o1; have RS2 := Aside0.mk r1; have OK2 := Aside0.mk ((OKb.out.alloc _).trans o1); clear r1 o1)
  obtain ⟨A9, N9, c9, rfl⟩ := own_slice3 RS2.out.row
  go_wp2_with fail
  go_ret
  exact ⟨_, rfl, by rw [HE.out]; exact RS2.out, OK0.out.trans OK2.out⟩
set_option maxHeartbeats 4000000 in
set_option maxRecDepth 100000 in
theorem rfmt4 (w0 : World) (qA : Option Addr) (qc : Nat) (ql : List ByteArray) (n : ByteArray) (o : Int) (A : Option Addr) (m : Nat) (c : Nat) (l : List UInt8) (v : Value) (W : World)
    (hs : RfSt w0 v l W) (hn : n.size ≤ 64) (hl : l.length ≤ 100000000) (post : List UInt8) (hp : post = [116, 121, 112, 101]) :
    Calls Tryd.prog 71 #[v, .agg #[.int .i64 4, .string n, .int .i64 o, .slice A m c], .slice qA ql.length qc] W (RfPost w0 (l ++ post) W) := by
  have RS0 := Aside0.mk (hs.alloc (.cells #[.int .i64 4, .string n, .int .i64 o, .slice A m c] 42))
  have OK0 : Aside0 (Lib.OthersKept 5 none W (W.alloc (.cells #[.int .i64 4, .string n, .int .i64 o, .slice A m c] 42))) := ⟨(Lib.OthersKept.refl _ _ W).alloc _⟩
  have hu42 := Tryd.underlying42
  have ln : n.data.toList.length = n.size := len_data n
  have HE := Aside0.mk hp
  have HL0 : Aside0 (l.length + (⟨#[116, 121, 112, 101]⟩ : ByteArray).size ≤ 100000000000) := ⟨by have : (⟨#[116, 121, 112, 101]⟩ : ByteArray).size = 4 := rfl; omega⟩
  clear hs hl ln hp
  go_enter Tryd.func71, Tryd.ntmps71
  go_wp2_with (at_builtin; refine rf_str rfl (.tmp 44) (.const (.string ⟨#[116, 121, 112, 101]⟩)) rfl ⟨#[116, 121, 112, 101]⟩ rfl rfl RS0.out HL0.out ?_; intro v2 w2 r1 o1; have RS2 := Aside0.mk r1; have OK2 := Aside0.mk o1; clear r1 o1)
  obtain ⟨A9, N9, c9, rfl⟩ := own_slice3 RS2.out.row
  go_wp2_with fail
  go_ret
  exact ⟨_, rfl, by rw [HE.out]; exact RS2.out, OK0.out.trans OK2.out⟩
set_option maxHeartbeats 4000000 in
set_option maxRecDepth 100000 in
theorem rfmt5 (w0 : World) (qA : Option Addr) (qc : Nat) (ql : List ByteArray) (n : ByteArray) (o : Int) (A : Option Addr) (m : Nat) (c : Nat) (l : List UInt8) (v : Value) (W : World)
    (hs : RfSt w0 v l W) (hn : n.size ≤ 64) (hl : l.length ≤ 100000000) (post : List UInt8) (hT : ∀ W', RfSt w0 v l W' → Calls Tryd.prog 96 #[v, .agg #[.int .i64 5, .string n, .int .i64 o, .slice A m c], .slice qA ql.length qc, .string (⟨#[32]⟩ : ByteArray)] W' (RfPost w0 (l ++ post) W')) :
    Calls Tryd.prog 71 #[v, .agg #[.int .i64 5, .string n, .int .i64 o, .slice A m c], .slice qA ql.length qc] W (RfPost w0 (l ++ post) W) := by
  have RS0 := Aside0.mk (hs.alloc (.cells #[.int .i64 5, .string n, .int .i64 o, .slice A m c] 42))
  have OK0 : Aside0 (Lib.OthersKept 5 none W (W.alloc (.cells #[.int .i64 5, .string n, .int .i64 o, .slice A m c] 42))) := ⟨(Lib.OthersKept.refl _ _ W).alloc _⟩
  have hu42 := Tryd.underlying42
  have ln : n.data.toList.length = n.size := len_data n
  have HT := Aside0.mk hT
  clear hs hl hT ln
  go_enter Tryd.func71, Tryd.ntmps71
  go_wp2_with fail
  go_at_call 96
  refine (HT.out _ RS0.out).mono ?_
  rintro e w1 ⟨v1, rfl, hs, ho⟩
  have OK1 := Aside0.mk ho
  have RS1 := Aside0.mk hs
  clear hs ho
  obtain ⟨A9, N9, c9, rfl⟩ := own_slice3 RS1.out.row
  go_wp2_with fail
  go_ret
  exact ⟨_, rfl, RS1.out, OK0.out.trans OK1.out⟩
set_option maxHeartbeats 4000000 in
set_option maxRecDepth 100000 in
theorem rfmt6 (w0 : World) (qA : Option Addr) (qc : Nat) (ql : List ByteArray) (n : ByteArray) (o : Int) (A : Option Addr) (m : Nat) (c : Nat) (l : List UInt8) (v : Value) (W : World)
    (hs : RfSt w0 v l W) (hn : n.size ≤ 64) (hl : l.length ≤ 100000000) (post : List UInt8) (hT : ∀ W', RfSt w0 v l W' → Calls Tryd.prog 96 #[v, .agg #[.int .i64 6, .string n, .int .i64 o, .slice A m c], .slice qA ql.length qc, .string (⟨#[32, 45, 62, 32]⟩ : ByteArray)] W' (RfPost w0 (l ++ post) W')) :
    Calls Tryd.prog 71 #[v, .agg #[.int .i64 6, .string n, .int .i64 o, .slice A m c], .slice qA ql.length qc] W (RfPost w0 (l ++ post) W) := by
  have RS0 := Aside0.mk (hs.alloc (.cells #[.int .i64 6, .string n, .int .i64 o, .slice A m c] 42))
  have OK0 : Aside0 (Lib.OthersKept 5 none W (W.alloc (.cells #[.int .i64 6, .string n, .int .i64 o, .slice A m c] 42))) := ⟨(Lib.OthersKept.refl _ _ W).alloc _⟩
  have hu42 := Tryd.underlying42
  have ln : n.data.toList.length = n.size := len_data n
  have HT := Aside0.mk hT
  clear hs hl hT ln
  go_enter Tryd.func71, Tryd.ntmps71
  go_wp2_with fail
  go_at_call 96
  refine (HT.out _ RS0.out).mono ?_
  rintro e w1 ⟨v1, rfl, hs, ho⟩
  have OK1 := Aside0.mk ho
  have RS1 := Aside0.mk hs
  clear hs ho
  obtain ⟨A9, N9, c9, rfl⟩ := own_slice3 RS1.out.row
  go_wp2_with fail
  go_ret
  exact ⟨_, rfl, RS1.out, OK0.out.trans OK1.out⟩
set_option maxHeartbeats 4000000 in
set_option maxRecDepth 100000 in
theorem rfmt9 (w0 : World) (qA : Option Addr) (qc : Nat) (ql : List ByteArray) (n : ByteArray) (o : Int) (A : Option Addr) (m : Nat) (c : Nat) (l : List UInt8) (v : Value) (W : World)
    (hs : RfSt w0 v l W) (hn : n.size ≤ 64) (hl : l.length ≤ 100000000) (post : List UInt8) (hT : ∀ W', RfSt w0 v l W' → Calls Tryd.prog 96 #[v, .agg #[.int .i64 9, .string n, .int .i64 o, .slice A m c], .slice qA ql.length qc, .string (⟨#[32, 58, 32]⟩ : ByteArray)] W' (RfPost w0 (l ++ post) W')) :
    Calls Tryd.prog 71 #[v, .agg #[.int .i64 9, .string n, .int .i64 o, .slice A m c], .slice qA ql.length qc] W (RfPost w0 (l ++ post) W) := by
  have RS0 := Aside0.mk (hs.alloc (.cells #[.int .i64 9, .string n, .int .i64 o, .slice A m c] 42))
  have OK0 : Aside0 (Lib.OthersKept 5 none W (W.alloc (.cells #[.int .i64 9, .string n, .int .i64 o, .slice A m c] 42))) := ⟨(Lib.OthersKept.refl _ _ W).alloc _⟩
  have hu42 := Tryd.underlying42
  have ln : n.data.toList.length = n.size := len_data n
  have HT := Aside0.mk hT
  clear hs hl hT ln
  go_enter Tryd.func71, Tryd.ntmps71
  go_wp2_with fail
  go_at_call 96
  refine (HT.out _ RS0.out).mono ?_
  rintro e w1 ⟨v1, rfl, hs, ho⟩
  have OK1 := Aside0.mk ho
  have RS1 := Aside0.mk hs
  clear hs ho
  obtain ⟨A9, N9, c9, rfl⟩ := own_slice3 RS1.out.row
  go_wp2_with fail
  go_ret
  exact ⟨_, rfl, RS1.out, OK0.out.trans OK1.out⟩
end
end Go.Proofs.YtajefkjcfmfjkaaDoor
namespace Go.Proofs.YtajefkjcfmfjkaaDoor
section
set_option linter.unusedVariables false
set_option linter.unusedSimpArgs false
set_option linter.deprecated false
open Go.RowKit Go.Proofs.YtajefkjcfmfjkaaDoorW.PrintWords Go.Proofs.YtajefkjcfmfjkaaDoor.PRawForms
set_option linter.unusedVariables false
/-- the names so far and the bound ones, in rows of their own -/
structure GrSt (w0 : World) (va vb : Value) (bd out : List ByteArray) (W : World) : Prop where
  be : Below w0.heap.size w0 W
  ro : W.ownsRow w0.heap.size 9 1 va out.length (pw_strs out)
  rb : W.ownsRow w0.heap.size 9 1 vb bd.length (pw_strs bd)
  ne : ∀ k, va.ownBlock = some k → vb.ownBlock ≠ some k
structure GrTo (w0 : World) (va v2 : Value) (out2 : List ByteArray) (W W2 : World) : Prop where
  be : Below w0.heap.size w0 W2
  ro : W2.ownsRow w0.heap.size 9 1 v2 out2.length (pw_strs out2)
  gr : W.grownBy W2 va.ownBlock
  at_ : v2.ownBlock = va.ownBlock ∨ ∃ b, v2.ownBlock = some b ∧ W.heap.size ≤ b
def GrPost (w0 : World) (va : Value) (out2 : List ByteArray) (W : World) (e : Ending) (w' : World) : Prop :=
  ∃ v2, e = .returned v2 ∧ GrTo w0 va v2 out2 W w'
section
variable {w0 W W' W1 W2 : World} {va vb v1 v2 : Value} {bd out o1 o2 : List ByteArray}
theorem grown_chain {r r1 : Option Nat} (h : W.grownBy W1 r) (k : W1.grownBy W2 r1) (e : r1 = r ∨ ∃ b, r1 = some b ∧ W.heap.size ≤ b) : W.grownBy W2 r := by
  rcases e with rfl | ⟨b, rfl, hb⟩
  · exact World.grownBy.trans h k
  · refine ⟨k.1.trans h.1, k.2.trans h.2, k.3.trans h.3, Nat.le_trans h.size k.size, fun i hi hne => ?_⟩
    rw [k.block i (Nat.lt_of_lt_of_le hi h.size) (fun e => by injection e with e; omega), h.block i hi hne]
theorem grown_none {r : Option Nat} (h : W.grownBy W1 none) : W.grownBy W1 r := ⟨h.1, h.2, h.3, h.size, fun i hi _ => h.block i hi (by simp)⟩
theorem grown_of_bel {r : Option Nat} (h : Below W.heap.size W W1) : W.grownBy W1 r := grown_of_below h r
theorem GrSt.below (h : GrSt w0 va vb bd out W) (hb : Below W.heap.size W W') : GrSt w0 va vb bd out W' :=
  ⟨below_step h.be hb, pw_own_below h.ro hb, pw_own_below h.rb hb, h.ne⟩
theorem GrSt.alloc (h : GrSt w0 va vb bd out W) (o : Obj) : GrSt w0 va vb bd out (W.alloc o) := h.below (below_alloc (Below.refl _ _) o)
theorem GrTo.of_below (h : GrSt w0 va vb bd out W) (hb : Below W.heap.size W W') : GrTo w0 va va out W W' :=
  ⟨below_step h.be hb, pw_own_below h.ro hb, grown_of_bel hb, .inl rfl⟩
theorem GrTo.trans (h : GrTo w0 va v1 o1 W W1) (k : GrTo w0 v1 v2 o2 W1 W2) : GrTo w0 va v2 o2 W W2 := by
  refine ⟨k.be, k.ro, grown_chain h.gr k.gr h.at_, ?_⟩
  rcases k.at_ with e | ⟨b, e, hb⟩
  · rw [e]; exact h.at_
  · exact .inr ⟨b, e, Nat.le_trans h.gr.size hb⟩
theorem GrTo.st (h : GrSt w0 va vb bd out W) (k : GrTo w0 va v2 o2 W W2) : GrSt w0 v2 vb bd o2 W2 := by
  refine ⟨k.be, k.ro, h.rb.kept k.gr ?_, ?_⟩
  · rcases hvb : vb.ownBlock with _ | j
    · exact .inl rfl
    · exact .inr (fun e => h.ne j e.symm hvb)
  · intro j hj hvb
    rcases k.at_ with e | ⟨b, e, hb⟩
    · exact h.ne j (e ▸ hj) hvb
    · rw [e] at hj
      injection hj with hj
      have := own_lt h.rb j hvb
      omega
theorem GrTo.cell (h : GrSt w0 va vb bd out W) (k : GrTo w0 va v2 o2 W W2) {i T : Nat} {cs : Array Value} (hi : W.heap[i]? = some (.cells cs T (0, 0))) (h9 : T ≠ 9) : W2.heap[i]? = some (.cells cs T (0, 0)) := by
  rw [k.gr.block i (blk_lt hi) (row_ne h.ro hi h9)]
  exact hi
/-- a copy of the bound names -/
theorem GrSt.clone (h : GrSt w0 va vb bd out W) (r : W1.ownsRow w0.heap.size 9 1 v1 bd.length (pw_strs bd)) (hb : Below w0.heap.size w0 W1) (g : W.grownBy W1 none) (a : v1.ownBlock = none ∨ ∃ b, v1.ownBlock = some b ∧ W.heap.size ≤ b) :
    GrSt w0 va v1 bd out W1 ∧ GrTo w0 va va out W W1 := by
  have ro : W1.ownsRow w0.heap.size 9 1 va out.length (pw_strs out) := by
    refine h.ro.kept g ?_
    rcases hva : va.ownBlock with _ | j
    · exact .inl rfl
    · exact .inr (by simp)
  refine ⟨⟨hb, ro, r, ?_⟩, ⟨hb, ro, grown_none g, .inl rfl⟩⟩
  intro k hk hv
  have := own_lt h.ro k hk
  rcases a with e | ⟨b, e, hle⟩
  · rw [e] at hv; cases hv
  · rw [e] at hv; injection hv with hv; omega
/-- the copy, and a name more -/
theorem GrSt.bind {n : ByteArray} (h : GrSt w0 va v1 bd out W1) (t : GrTo w0 va va out W W1) (a : v1.ownBlock = none ∨ ∃ b, v1.ownBlock = some b ∧ W.heap.size ≤ b)
    (r : W2.ownsRow w0.heap.size 9 1 v2 (bd ++ [n]).length (pw_strs (bd ++ [n]))) (hb : Below w0.heap.size w0 W2) (g : W1.grownBy W2 v1.ownBlock) (a2 : v2.ownBlock = v1.ownBlock ∨ ∃ b, v2.ownBlock = some b ∧ W1.heap.size ≤ b) :
    GrSt w0 va v2 (bd ++ [n]) out W2 ∧ GrTo w0 va va out W W2 := by
  have ro : W2.ownsRow w0.heap.size 9 1 va out.length (pw_strs out) := by
    refine h.ro.kept g ?_
    rcases hva : va.ownBlock with _ | j
    · exact .inl rfl
    · exact .inr (fun e => h.ne j hva e.symm)
  refine ⟨⟨hb, ro, r, ?_⟩, ⟨hb, ro, ?_, .inl rfl⟩⟩
  · intro k hk hv
    rcases a2 with e | ⟨b, e, hle⟩
    · exact h.ne k hk (e ▸ hv)
    · rw [e] at hv
      injection hv with hv
      have := own_lt h.ro k hk
      omega
  · have g' : W.grownBy W2 va.ownBlock := by
      rcases a with e | ⟨b, e, hle⟩
      · rw [e] at g; exact World.grownBy.trans t.gr (grown_none g)
      · exact grown_chain t.gr g (.inr ⟨b, e, hle⟩)
    exact g'
theorem GrTo.grew {n : ByteArray} (h : GrSt w0 va vb bd out W) (r : W2.ownsRow w0.heap.size 9 1 v2 (out ++ [n]).length (pw_strs (out ++ [n]))) (hb : Below w0.heap.size w0 W2) (g : W.grownBy W2 va.ownBlock) (a : v2.ownBlock = va.ownBlock ∨ ∃ b, v2.ownBlock = some b ∧ W.heap.size ≤ b) : GrTo w0 va v2 (out ++ [n]) W W2 := ⟨hb, r, g, a⟩
end
def outG (bd out : List ByteArray) (l : List S42) (j : Nat) : List ByteArray := ((grL l).take j).foldl (fun o f => f bd o) out
theorem outG_succ (bd out : List ByteArray) (l : List S42) (j : Nat) (h : j < l.length) : outG bd out l (j + 1) = grT (rd_T42 l (j : Int)) bd (outG bd out l j) := by
  unfold outG
  have h' : j < (grL l).length := by rw [grL_map, List.length_map]; exact h
  rw [List.take_succ_eq_append_getElem h', List.foldl_append]
  simp only [List.foldl_cons, List.foldl_nil]
  have : (grL l)[j] = grT (rd_T42 l (j : Int)) := by
    rw [rdT_get h]; simp [grL_map]
  rw [this]
theorem outG_zero (bd out : List ByteArray) (l : List S42) : outG bd out l 0 = out := by simp [outG]
theorem outG_all (bd out : List ByteArray) (l : List S42) : outG bd out l l.length = (grL l).foldl (fun o f => f bd o) out := by
  unfold outG
  rw [List.take_of_length_le (by rw [grL_map, List.length_map]; omega)]
/-- what the reference's walk does at a tree -/
def GrC (w0 : World) (N : Nat) (x : S42) : Prop :=
  ∀ (bd out : List ByteArray) (va vb : Value) (A : Option Addr) (c : Nat) (W : World), GrSt w0 va vb bd out W → Kd.C k42 w0 A x.f3.length x.f3 → x.f3.length ≤ c → bd.length + szT x ≤ N → out.length + szT x ≤ N →
    Calls Tryd.prog 74 #[va, .agg #[.int .i64 x.f0, .string x.f1, .int .i64 x.f2, .slice A x.f3.length c], vb] W (GrPost w0 va (grT x bd out) W)
end
end Go.Proofs.YtajefkjcfmfjkaaDoor
namespace Go.Proofs.YtajefkjcfmfjkaaDoor
section
set_option linter.unusedVariables false
set_option linter.unusedSimpArgs false
set_option linter.deprecated false
open Go.RowKit Go.Proofs.YtajefkjcfmfjkaaDoorW.PrintWords Go.Proofs.YtajefkjcfmfjkaaDoor.PRawForms
set_option linter.unusedVariables false
set_option linter.unusedSimpArgs false
set_option maxHeartbeats 4000000 in
set_option maxRecDepth 100000 in
theorem gleaf1in (w0 : World) (bd out : List ByteArray) (n : ByteArray) (o : Int) (va vb : Value) (A : Option Addr) (m c : Nat) (W : World)
    (hs : GrSt w0 va vb bd out W) (hn : n.size ≤ 64) (ho : out.length ≤ 100000000) (hbl : bd.length ≤ 100000000) (hq : inQ out n = true) :
    Calls Tryd.prog 74 #[va, .agg #[.int .i64 1, .string n, .int .i64 o, .slice A m c], vb] W (GrPost w0 va out W) := by
  have hu42 := Tryd.underlying42
  have ST0 := Aside0.mk hs
  obtain ⟨A1, c1, rfl, hc1, hr1⟩ := own_reads_of_le (enc := Value.string) (d := ByteArray.empty) hs.ro
  have C1 : Kd.C Kd.string W A1 out.length out := Kd.C_of_reads hr1
  have H1 : Aside0 (∀ W', Below W.heap.size W W' → Calls Tryd.prog 95 #[.slice A1 out.length c1, .string n] W' fun e w' => e = .returned (.bool true) ∧ Drawn0 W' w') := ⟨fun W' h => by have := in_any out A1 c1 n W' (by omega) (Kd.C_below C1 h) hc1; rwa [hq] at this⟩
  have HLA : Aside0 (((pw_strs out).length + 1) * 16 ≤ 140737488355328) := ⟨by simp only [pw_strs, List.length_map]; omega⟩
  clear hs hn ho hbl hq hc1 hr1 C1
  go_enter Tryd.func74, Tryd.ntmps74
  go_wp2_with (go_at_call 95; (with_reducible refine (H1.out _ ?b1).mono ?_); (case b1 => exact (by repeat (first | (with_reducible first | exact Below.refl _ _ | apply below_alloc | apply pw_below_drewN | apply below_drew1 | refine below_set ?_ (Nat.le_refl _)) | assumption))); rintro e w' ⟨rfl, ⟨nd, rfl⟩⟩)
  go_ret
  exact ⟨_, rfl, GrTo.of_below ST0.out (by repeat (first | (with_reducible first | exact Below.refl _ _ | apply below_alloc | apply pw_below_drewN | apply below_drew1 | refine below_set ?_ (Nat.le_refl _)) | assumption))⟩
set_option maxHeartbeats 4000000 in
set_option maxRecDepth 100000 in
theorem gleaf1bd (w0 : World) (bd out : List ByteArray) (n : ByteArray) (o : Int) (va vb : Value) (A : Option Addr) (m c : Nat) (W : World)
    (hs : GrSt w0 va vb bd out W) (hn : n.size ≤ 64) (ho : out.length ≤ 100000000) (hbl : bd.length ≤ 100000000) (hq : inQ out n = false) (hb : inQ bd n = true) :
    Calls Tryd.prog 74 #[va, .agg #[.int .i64 1, .string n, .int .i64 o, .slice A m c], vb] W (GrPost w0 va out W) := by
  have hu42 := Tryd.underlying42
  have ST0 := Aside0.mk hs
  obtain ⟨A1, c1, rfl, hc1, hr1⟩ := own_reads_of_le (enc := Value.string) (d := ByteArray.empty) hs.ro
  have C1 : Kd.C Kd.string W A1 out.length out := Kd.C_of_reads hr1
  have H1 : Aside0 (∀ W', Below W.heap.size W W' → Calls Tryd.prog 95 #[.slice A1 out.length c1, .string n] W' fun e w' => e = .returned (.bool false) ∧ Drawn0 W' w') := ⟨fun W' h => by have := in_any out A1 c1 n W' (by omega) (Kd.C_below C1 h) hc1; rwa [hq] at this⟩
  obtain ⟨B1, d1, rfl, hc2, hr2⟩ := own_reads_of_le (enc := Value.string) (d := ByteArray.empty) hs.rb
  have C2 : Kd.C Kd.string W B1 bd.length bd := Kd.C_of_reads hr2
  have H2 : Aside0 (∀ W', Below W.heap.size W W' → Calls Tryd.prog 95 #[.slice B1 bd.length d1, .string n] W' fun e w' => e = .returned (.bool true) ∧ Drawn0 W' w') := ⟨fun W' h => by have := in_any bd B1 d1 n W' (by omega) (Kd.C_below C2 h) hc2; rwa [hb] at this⟩
  clear hc2 hr2 C2 hb
  have HLA : Aside0 (((pw_strs out).length + 1) * 16 ≤ 140737488355328) := ⟨by simp only [pw_strs, List.length_map]; omega⟩
  clear hs hn ho hbl hq hc1 hr1 C1
  go_enter Tryd.func74, Tryd.ntmps74
  go_wp2_with (first | (go_at_call 95; (with_reducible refine (H1.out _ ?b1).mono ?_); (case b1 => exact (by repeat (first | (with_reducible first | exact Below.refl _ _ | apply below_alloc | apply pw_below_drewN | apply below_drew1 | refine below_set ?_ (Nat.le_refl _)) | assumption))); rintro e w' ⟨rfl, ⟨nd, rfl⟩⟩) | (go_at_call 95; (with_reducible refine (H2.out _ ?b1).mono ?_); (case b1 => exact (by repeat (first | (with_reducible first | exact Below.refl _ _ | apply below_alloc | apply pw_below_drewN | apply below_drew1 | refine below_set ?_ (Nat.le_refl _)) | assumption))); rintro e w' ⟨rfl, ⟨nd2, rfl⟩⟩))
  go_ret
  exact ⟨_, rfl, GrTo.of_below ST0.out (by repeat (first | (with_reducible first | exact Below.refl _ _ | apply below_alloc | apply pw_below_drewN | apply below_drew1 | refine below_set ?_ (Nat.le_refl _)) | assumption))⟩
set_option maxHeartbeats 4000000 in
set_option maxRecDepth 100000 in
theorem gleaf1no (w0 : World) (bd out : List ByteArray) (n : ByteArray) (o : Int) (va vb : Value) (A : Option Addr) (m c : Nat) (W : World)
    (hs : GrSt w0 va vb bd out W) (hn : n.size ≤ 64) (ho : out.length ≤ 100000000) (hbl : bd.length ≤ 100000000) (hq : inQ out n = false) (hb : inQ bd n = false) :
    Calls Tryd.prog 74 #[va, .agg #[.int .i64 1, .string n, .int .i64 o, .slice A m c], vb] W (GrPost w0 va (out ++ [n]) W) := by
  have hu42 := Tryd.underlying42
  have ST0 := Aside0.mk hs
  obtain ⟨A1, c1, rfl, hc1, hr1⟩ := own_reads_of_le (enc := Value.string) (d := ByteArray.empty) hs.ro
  have C1 : Kd.C Kd.string W A1 out.length out := Kd.C_of_reads hr1
  have H1 : Aside0 (∀ W', Below W.heap.size W W' → Calls Tryd.prog 95 #[.slice A1 out.length c1, .string n] W' fun e w' => e = .returned (.bool false) ∧ Drawn0 W' w') := ⟨fun W' h => by have := in_any out A1 c1 n W' (by omega) (Kd.C_below C1 h) hc1; rwa [hq] at this⟩
  obtain ⟨B1, d1, rfl, hc2, hr2⟩ := own_reads_of_le (enc := Value.string) (d := ByteArray.empty) hs.rb
  have C2 : Kd.C Kd.string W B1 bd.length bd := Kd.C_of_reads hr2
  have H2 : Aside0 (∀ W', Below W.heap.size W W' → Calls Tryd.prog 95 #[.slice B1 bd.length d1, .string n] W' fun e w' => e = .returned (.bool false) ∧ Drawn0 W' w') := ⟨fun W' h => by have := in_any bd B1 d1 n W' (by omega) (Kd.C_below C2 h) hc2; rwa [hb] at this⟩
  clear hc2 hr2 C2 hb
  have HLA : Aside0 (((pw_strs out).length + 1) * 16 ≤ 140737488355328) := ⟨by simp only [pw_strs, List.length_map]; omega⟩
  clear hs hn ho hbl hq hc1 hr1 C1
  go_enter Tryd.func74, Tryd.ntmps74
  go_wp2_with (first | (go_at_call 95; (with_reducible refine (H1.out _ ?b1).mono ?_); (case b1 => exact (by repeat (first | (with_reducible first | exact Below.refl _ _ | apply below_alloc | apply pw_below_drewN | apply below_drew1 | refine below_set ?_ (Nat.le_refl _)) | assumption))); rintro e w' ⟨rfl, ⟨nd, rfl⟩⟩) | (go_at_call 95; (with_reducible refine (H2.out _ ?b1).mono ?_); (case b1 => exact (by repeat (first | (with_reducible first | exact Below.refl _ _ | apply below_alloc | apply pw_below_drewN | apply below_drew1 | refine below_set ?_ (Nat.le_refl _)) | assumption))); rintro e wz ⟨rfl, ⟨nd2, hd⟩⟩; have HBb : Aside0 (Below W.heap.size W wz) := ⟨by rw [hd]; exact (by repeat (first | (with_reducible first | exact Below.refl _ _ | apply below_alloc | apply pw_below_drewN | apply below_drew1 | refine below_set ?_ (Nat.le_refl _)) | assumption))⟩; have STb := Aside0.mk (ST0.out.below HBb.out); have m1 : wz.cell? ⟨W.heap.size, 1, none⟩ = some (.string n) := (by rw [hd]; exact (blk_cell (heap_alloc_new W (.cells #[.int .i64 1, .string n, .int .i64 o, .slice A m c] 42)) 1).trans rfl); have m0 : wz.cell? ⟨W.heap.size, 0, none⟩ = some (.int .i64 1) := (by rw [hd]; exact (blk_cell (heap_alloc_new W (.cells #[.int .i64 1, .string n, .int .i64 o, .slice A m c] 42)) 0).trans rfl); have hl1 := World.block_lt_of_cell? wz _ m1; clear hd) | (at_builtin; refine print_append (w0 := w0) (W := wz) w0.heap.size rfl (.tmp 46) (.tmp 49) 38 9 (.string ⟨#[]⟩) 16 rfl Tryd.underlying38 infoS9 rfl (by decide) (.slice A1 out.length c1) (pw_strs out) (.string n) rfl rfl rfl (by simpa [pw_strs] using (STb.out.ro)) STb.out.be (below_size STb.out.be) HLA.out ?_; intro v3 w3 r2 hb2 hg2 hat; obtain ⟨A3, N3, c3, rfl⟩ := own_sl3 r2; have T3 := Aside0.mk (GrTo.trans (GrTo.of_below ST0.out HBb.out) (GrTo.grew STb.out (by simpa [pw_strs] using r2) hb2 hg2 hat)); clear r2 hb2 hg2 hat))
  go_ret
  exact ⟨_, rfl, T3.out⟩
set_option maxHeartbeats 4000000 in
set_option maxRecDepth 100000 in
theorem gleaf2in (w0 : World) (bd out : List ByteArray) (n : ByteArray) (o : Int) (va vb : Value) (A : Option Addr) (m c : Nat) (W : World)
    (hs : GrSt w0 va vb bd out W) (hn : n.size ≤ 64) (ho : out.length ≤ 100000000) (hbl : bd.length ≤ 100000000) (hq : inQ out n = true) :
    Calls Tryd.prog 74 #[va, .agg #[.int .i64 2, .string n, .int .i64 o, .slice A m c], vb] W (GrPost w0 va out W) := by
  have hu42 := Tryd.underlying42
  have ST0 := Aside0.mk hs
  obtain ⟨A1, c1, rfl, hc1, hr1⟩ := own_reads_of_le (enc := Value.string) (d := ByteArray.empty) hs.ro
  have C1 : Kd.C Kd.string W A1 out.length out := Kd.C_of_reads hr1
  have H1 : Aside0 (∀ W', Below W.heap.size W W' → Calls Tryd.prog 95 #[.slice A1 out.length c1, .string n] W' fun e w' => e = .returned (.bool true) ∧ Drawn0 W' w') := ⟨fun W' h => by have := in_any out A1 c1 n W' (by omega) (Kd.C_below C1 h) hc1; rwa [hq] at this⟩
  have HLA : Aside0 (((pw_strs out).length + 1) * 16 ≤ 140737488355328) := ⟨by simp only [pw_strs, List.length_map]; omega⟩
  clear hs hn ho hbl hq hc1 hr1 C1
  go_enter Tryd.func74, Tryd.ntmps74
  go_wp2_with (go_at_call 95; (with_reducible refine (H1.out _ ?b1).mono ?_); (case b1 => exact (by repeat (first | (with_reducible first | exact Below.refl _ _ | apply below_alloc | apply pw_below_drewN | apply below_drew1 | refine below_set ?_ (Nat.le_refl _)) | assumption))); rintro e w' ⟨rfl, ⟨nd, rfl⟩⟩)
  go_ret
  exact ⟨_, rfl, GrTo.of_below ST0.out (by repeat (first | (with_reducible first | exact Below.refl _ _ | apply below_alloc | apply pw_below_drewN | apply below_drew1 | refine below_set ?_ (Nat.le_refl _)) | assumption))⟩
set_option maxHeartbeats 4000000 in
set_option maxRecDepth 100000 in
theorem gleaf2no (w0 : World) (bd out : List ByteArray) (n : ByteArray) (o : Int) (va vb : Value) (A : Option Addr) (m c : Nat) (W : World)
    (hs : GrSt w0 va vb bd out W) (hn : n.size ≤ 64) (ho : out.length ≤ 100000000) (hbl : bd.length ≤ 100000000) (hq : inQ out n = false) :
    Calls Tryd.prog 74 #[va, .agg #[.int .i64 2, .string n, .int .i64 o, .slice A m c], vb] W (GrPost w0 va (out ++ [n]) W) := by
  have hu42 := Tryd.underlying42
  have ST0 := Aside0.mk hs
  obtain ⟨A1, c1, rfl, hc1, hr1⟩ := own_reads_of_le (enc := Value.string) (d := ByteArray.empty) hs.ro
  have C1 : Kd.C Kd.string W A1 out.length out := Kd.C_of_reads hr1
  have H1 : Aside0 (∀ W', Below W.heap.size W W' → Calls Tryd.prog 95 #[.slice A1 out.length c1, .string n] W' fun e w' => e = .returned (.bool false) ∧ Drawn0 W' w') := ⟨fun W' h => by have := in_any out A1 c1 n W' (by omega) (Kd.C_below C1 h) hc1; rwa [hq] at this⟩
  have HLA : Aside0 (((pw_strs out).length + 1) * 16 ≤ 140737488355328) := ⟨by simp only [pw_strs, List.length_map]; omega⟩
  clear hs hn ho hbl hq hc1 hr1 C1
  go_enter Tryd.func74, Tryd.ntmps74
  go_wp2_with (first | (go_at_call 95; (with_reducible refine (H1.out _ ?b1).mono ?_); (case b1 => exact (by repeat (first | (with_reducible first | exact Below.refl _ _ | apply below_alloc | apply pw_below_drewN | apply below_drew1 | refine below_set ?_ (Nat.le_refl _)) | assumption))); rintro e wz ⟨rfl, ⟨nd, hd⟩⟩; have HBb : Aside0 (Below W.heap.size W wz) := ⟨by rw [hd]; exact (by repeat (first | (with_reducible first | exact Below.refl _ _ | apply below_alloc | apply pw_below_drewN | apply below_drew1 | refine below_set ?_ (Nat.le_refl _)) | assumption))⟩; have STb := Aside0.mk (ST0.out.below HBb.out); have m1 : wz.cell? ⟨W.heap.size, 1, none⟩ = some (.string n) := (by rw [hd]; exact (blk_cell (heap_alloc_new W (.cells #[.int .i64 2, .string n, .int .i64 o, .slice A m c] 42)) 1).trans rfl); have m0 : wz.cell? ⟨W.heap.size, 0, none⟩ = some (.int .i64 2) := (by rw [hd]; exact (blk_cell (heap_alloc_new W (.cells #[.int .i64 2, .string n, .int .i64 o, .slice A m c] 42)) 0).trans rfl); have hl1 := World.block_lt_of_cell? wz _ m1; clear hd) | (at_builtin; refine print_append (w0 := w0) (W := wz) w0.heap.size rfl (.tmp 46) (.tmp 49) 38 9 (.string ⟨#[]⟩) 16 rfl Tryd.underlying38 infoS9 rfl (by decide) (.slice A1 out.length c1) (pw_strs out) (.string n) rfl rfl rfl (by simpa [pw_strs] using (STb.out.ro)) STb.out.be (below_size STb.out.be) HLA.out ?_; intro v3 w3 r2 hb2 hg2 hat; obtain ⟨A3, N3, c3, rfl⟩ := own_sl3 r2; have T3 := Aside0.mk (GrTo.trans (GrTo.of_below ST0.out HBb.out) (GrTo.grew STb.out (by simpa [pw_strs] using r2) hb2 hg2 hat)); clear r2 hb2 hg2 hat))
  go_ret
  exact ⟨_, rfl, T3.out⟩
set_option maxHeartbeats 4000000 in
set_option maxRecDepth 100000 in
theorem gbind71u (w0 : World) (N : Nat) (bd out : List ByteArray) (n : ByteArray) (o : Int) (y : S42) (va vb : Value) (A : Option Addr) (c : Nat) (W : World)
    (hs : GrSt w0 va vb bd out W) (hr : Kd.C k42 w0 A 1 [y]) (hy : GrC w0 N y) (hy1 : bd.length + szT y ≤ N) (hy2 : out.length + szT y ≤ N) (hb : bd.length ≤ 100000000) (hu : (!n.toList == [95]) = false) :
    Calls Tryd.prog 74 #[va, .agg #[.int .i64 7, .string n, .int .i64 o, .slice A 1 c], vb] W (GrPost w0 va (grT y bd out) W) := by
  have hu42 := Tryd.underlying42
  have STW := Aside0.mk hs
  obtain ⟨ad, A1, c1, hA, f0, f1, f2, f3, hc1, hC1⟩ := atn42 hr 0 (by omega)
  subst hA
  rw [show rd_T42 [y] ((0 : Nat) : Int) = y from rfl] at f0 f1 f2 f3 hc1 hC1
  rw [show ad.add (0 * 4) = ad from Addr.add_zero42 ad] at f0 f1 f2 f3
  have F0 := Aside0.mk (And.intro f0 (And.intro f1 (And.intro f2 f3)))
  have ST0 := Aside0.mk (hs.alloc (.cells #[.int .i64 7, .string n, .int .i64 o, .slice (some ad) 1 c] 42))
  have T0 := Aside0.mk (GrTo.of_below hs (below_alloc (Below.refl _ W) (.cells #[.int .i64 7, .string n, .int .i64 o, .slice (some ad) 1 c] 42)))
  have BX0 : Aside0 ((W.alloc (.cells #[.int .i64 7, .string n, .int .i64 o, .slice (some ad) 1 c] 42)).heap[W.heap.size]? = some (.cells #[.int .i64 7, .string n, .int .i64 o, .slice (some ad) 1 c] 42 (0, 0))) := ⟨heap_alloc_new _ _⟩
  have HY := Aside0.mk (fun va' vb' W' h => hy bd out va' vb' A1 c1 W' h hC1 hc1 hy1 hy2)
  have q1 : IntKind.i64.wrap 0 = 0 := by decide
  have HLA : Aside0 ((([] : List ByteArray).length + bd.length) * 16 ≤ 140737488355328) := ⟨by simp; omega⟩
  have HLB : Aside0 (((pw_strs bd).length + 1) * 16 ≤ 140737488355328) := ⟨by simp only [pw_strs, List.length_map]; omega⟩
  clear f0 f1 f2 f3 hc1 hC1 hs hr hy hy1 hy2 hb
  obtain ⟨B1, d1, rfl, hc2, _⟩ := own_reads_of_le (enc := Value.string) (d := ByteArray.empty) STW.out.rb
  have HRD : Aside0 (∀ W' {o' : List ByteArray} {va' : Value}, GrSt w0 va' (.slice B1 bd.length d1) bd o' W' → ReadsOf Value.string ByteArray.empty W' B1 bd.length bd) := ⟨fun W' _ _ h => own_reads_of' h.rb⟩
  clear hc2
  go_enter Tryd.func74, Tryd.ntmps74
  have ST2 := ST0
  have T2 := Aside0.mk (GrTo.of_below ST0.out (Below.refl _ _))
  go_wp2_with (first | (at_builtin; refine print_append_row_of (w0 := w0) Value.string ByteArray.empty w0.heap.size rfl (.const (.slice none 0 0)) (.tmp 65) 38 9 (.string ⟨#[]⟩) 16 rfl Tryd.underlying38 infoS9 rfl (by decide) (fun _ => rfl) (.slice none 0 0) [] bd B1 bd.length d1 rfl rfl ⟨rfl, .inl ⟨rfl, rfl⟩⟩ (HRD.out _ ST2.out) ST2.out.be (below_size ST2.out.be) HLA.out ?_; intro v3 w3 r2 hb2 hg2 hat; obtain ⟨A3, N3, c3, rfl⟩ := own_sl3 r2; have hcl := GrSt.clone ST2.out (by simpa [pw_strs, encs] using r2) hb2 hg2 hat; have ST3 := Aside0.mk hcl.1; have T3 := Aside0.mk hcl.2; have AT3 := Aside0.mk hat; have m1 : w3.cell? ⟨W.heap.size, 1, none⟩ = some (.string n) := (blk_cell (GrTo.cell ST0.out (GrTo.trans T2.out T3.out) BX0.out (by decide)) 1).trans rfl; have hl1 := World.block_lt_of_cell? w3 _ m1; have m3 : w3.cell? ⟨W.heap.size, 3, none⟩ = some (.slice (some ad) 1 c) := (blk_cell (GrTo.cell ST0.out (GrTo.trans T2.out T3.out) BX0.out (by decide)) 3).trans rfl; have f0 := pw_cell_below ST3.out.be F0.out.1; have f1 := pw_cell_below ST3.out.be F0.out.2.1; have f2 := pw_cell_below ST3.out.be F0.out.2.2.1; have f3 := pw_cell_below ST3.out.be F0.out.2.2.2; clear r2 hb2 hg2 hat hcl) | (go_at_call 74; (with_reducible refine (HY.out _ _ _ ST3.out).mono ?_); rintro e w6 ⟨v6, rfl, g⟩; obtain ⟨A6, N6, c6, rfl⟩ := own_sl3 g.ro; have T6 := Aside0.mk g; clear g))
  go_ret
  exact ⟨_, rfl, GrTo.trans T0.out (GrTo.trans T2.out (GrTo.trans T3.out T6.out))⟩
set_option maxHeartbeats 4000000 in
set_option maxRecDepth 100000 in
theorem gbind71n (w0 : World) (N : Nat) (bd out : List ByteArray) (n : ByteArray) (o : Int) (y : S42) (va vb : Value) (A : Option Addr) (c : Nat) (W : World)
    (hs : GrSt w0 va vb bd out W) (hr : Kd.C k42 w0 A 1 [y]) (hy : GrC w0 N y) (hy1 : (bd ++ [n]).length + szT y ≤ N) (hy2 : out.length + szT y ≤ N) (hb : bd.length ≤ 100000000) (hu : (!n.toList == [95]) = true) :
    Calls Tryd.prog 74 #[va, .agg #[.int .i64 7, .string n, .int .i64 o, .slice A 1 c], vb] W (GrPost w0 va (grT y (bd ++ [n]) out) W) := by
  have hu42 := Tryd.underlying42
  have STW := Aside0.mk hs
  obtain ⟨ad, A1, c1, hA, f0, f1, f2, f3, hc1, hC1⟩ := atn42 hr 0 (by omega)
  subst hA
  rw [show rd_T42 [y] ((0 : Nat) : Int) = y from rfl] at f0 f1 f2 f3 hc1 hC1
  rw [show ad.add (0 * 4) = ad from Addr.add_zero42 ad] at f0 f1 f2 f3
  have F0 := Aside0.mk (And.intro f0 (And.intro f1 (And.intro f2 f3)))
  have ST0 := Aside0.mk (hs.alloc (.cells #[.int .i64 7, .string n, .int .i64 o, .slice (some ad) 1 c] 42))
  have T0 := Aside0.mk (GrTo.of_below hs (below_alloc (Below.refl _ W) (.cells #[.int .i64 7, .string n, .int .i64 o, .slice (some ad) 1 c] 42)))
  have BX0 : Aside0 ((W.alloc (.cells #[.int .i64 7, .string n, .int .i64 o, .slice (some ad) 1 c] 42)).heap[W.heap.size]? = some (.cells #[.int .i64 7, .string n, .int .i64 o, .slice (some ad) 1 c] 42 (0, 0))) := ⟨heap_alloc_new _ _⟩
  have HY := Aside0.mk (fun va' vb' W' h => hy (bd ++ [n]) out va' vb' A1 c1 W' h hC1 hc1 hy1 hy2)
  have q1 : IntKind.i64.wrap 0 = 0 := by decide
  have HLA : Aside0 ((([] : List ByteArray).length + bd.length) * 16 ≤ 140737488355328) := ⟨by simp; omega⟩
  have HLB : Aside0 (((pw_strs bd).length + 1) * 16 ≤ 140737488355328) := ⟨by simp only [pw_strs, List.length_map]; omega⟩
  clear f0 f1 f2 f3 hc1 hC1 hs hr hy hy1 hy2 hb
  obtain ⟨B1, d1, rfl, hc2, _⟩ := own_reads_of_le (enc := Value.string) (d := ByteArray.empty) STW.out.rb
  have HRD : Aside0 (∀ W' {o' : List ByteArray} {va' : Value}, GrSt w0 va' (.slice B1 bd.length d1) bd o' W' → ReadsOf Value.string ByteArray.empty W' B1 bd.length bd) := ⟨fun W' _ _ h => own_reads_of' h.rb⟩
  clear hc2
  go_enter Tryd.func74, Tryd.ntmps74
  have ST2 := ST0
  have T2 := Aside0.mk (GrTo.of_below ST0.out (Below.refl _ _))
  go_wp2_with (first | (at_builtin; refine print_append_row_of (w0 := w0) Value.string ByteArray.empty w0.heap.size rfl (.const (.slice none 0 0)) (.tmp 65) 38 9 (.string ⟨#[]⟩) 16 rfl Tryd.underlying38 infoS9 rfl (by decide) (fun _ => rfl) (.slice none 0 0) [] bd B1 bd.length d1 rfl rfl ⟨rfl, .inl ⟨rfl, rfl⟩⟩ (HRD.out _ ST2.out) ST2.out.be (below_size ST2.out.be) HLA.out ?_; intro v3 w3 r2 hb2 hg2 hat; obtain ⟨A3, N3, c3, rfl⟩ := own_sl3 r2; have hcl := GrSt.clone ST2.out (by simpa [pw_strs, encs] using r2) hb2 hg2 hat; have ST3 := Aside0.mk hcl.1; have T3 := Aside0.mk hcl.2; have AT3 := Aside0.mk hat; have m1 : w3.cell? ⟨W.heap.size, 1, none⟩ = some (.string n) := (blk_cell (GrTo.cell ST0.out (GrTo.trans T2.out T3.out) BX0.out (by decide)) 1).trans rfl; have hl1 := World.block_lt_of_cell? w3 _ m1; clear r2 hb2 hg2 hat hcl) | (at_builtin; refine print_append (w0 := w0) (W := w3) w0.heap.size rfl (.tmp 70) (.tmp 73) 38 9 (.string ⟨#[]⟩) 16 rfl Tryd.underlying38 infoS9 rfl (by decide) (.slice A3 N3 c3) (pw_strs bd) (.string n) rfl rfl rfl (by simpa [pw_strs] using ST3.out.rb) ST3.out.be (below_size ST3.out.be) HLB.out ?_; intro v4 w4 r2 hb2 hg2 hat; obtain ⟨A4, N4, c4, rfl⟩ := own_sl3 r2; have hbi := GrSt.bind ST3.out T3.out AT3.out (by simpa [pw_strs] using r2) hb2 hg2 hat; have ST4 := Aside0.mk hbi.1; have T4 := Aside0.mk hbi.2; have m3 : w4.cell? ⟨W.heap.size, 3, none⟩ = some (.slice (some ad) 1 c) := (blk_cell (GrTo.cell ST0.out (GrTo.trans T2.out T4.out) BX0.out (by decide)) 3).trans rfl; have f0 := pw_cell_below ST4.out.be F0.out.1; have f1 := pw_cell_below ST4.out.be F0.out.2.1; have f2 := pw_cell_below ST4.out.be F0.out.2.2.1; have f3 := pw_cell_below ST4.out.be F0.out.2.2.2; clear r2 hb2 hg2 hat hbi) | (go_at_call 74; (with_reducible refine (HY.out _ _ _ ST4.out).mono ?_); rintro e w6 ⟨v6, rfl, g⟩; obtain ⟨A6, N6, c6, rfl⟩ := own_sl3 g.ro; have T6 := Aside0.mk g; clear g))
  go_ret
  exact ⟨_, rfl, GrTo.trans T0.out (GrTo.trans T2.out (GrTo.trans T4.out T6.out))⟩
set_option maxHeartbeats 4000000 in
set_option maxRecDepth 100000 in
theorem gbind72u (w0 : World) (N : Nat) (bd out : List ByteArray) (n : ByteArray) (o : Int) (x y : S42) (va vb : Value) (A : Option Addr) (c : Nat) (W : World)
    (hs : GrSt w0 va vb bd out W) (hr : Kd.C k42 w0 A 2 [x, y]) (hx : GrC w0 N x) (hx1 : bd.length + szT x ≤ N) (hx2 : out.length + szT x ≤ N) (hy : GrC w0 N y) (hy1 : bd.length + szT y ≤ N) (hy2 : (grT x bd out).length + szT y ≤ N) (hb : bd.length ≤ 100000000) (hu : (!n.toList == [95]) = false) :
    Calls Tryd.prog 74 #[va, .agg #[.int .i64 7, .string n, .int .i64 o, .slice A 2 c], vb] W (GrPost w0 va (grT y bd (grT x bd out)) W) := by
  have hu42 := Tryd.underlying42
  have STW := Aside0.mk hs
  obtain ⟨ad, A0, c0, hA, e0, e1, e2, e3, hc0, hC0⟩ := atn42 hr 0 (by omega)
  obtain ⟨ad', A1, c1, hA', f0, f1, f2, f3, hc1, hC1⟩ := atn42 hr 1 (by omega)
  subst hA
  obtain rfl := Option.some.inj hA'
  rw [show rd_T42 [x, y] ((0 : Nat) : Int) = x from rfl] at e0 e1 e2 e3 hc0 hC0
  rw [show ad.add (0 * 4) = ad from Addr.add_zero42 ad] at e0 e1 e2 e3
  rw [show rd_T42 [x, y] ((1 : Nat) : Int) = y from rfl] at f0 f1 f2 f3 hc1 hC1
  rw [Addr.add_one42 ad] at f0 f1 f2 f3
  simp only at f1 f2 f3
  have HX := Aside0.mk (fun W' h => hx bd out va vb A0 c0 W' h hC0 hc0 hx1 hx2)
  replace e0 := fun o => pw_cell_below (below_alloc (Below.refl _ W) o) (pw_cell_below hs.be e0)
  replace e1 := fun o => pw_cell_below (below_alloc (Below.refl _ W) o) (pw_cell_below hs.be e1)
  replace e2 := fun o => pw_cell_below (below_alloc (Below.refl _ W) o) (pw_cell_below hs.be e2)
  replace e3 := fun o => pw_cell_below (below_alloc (Below.refl _ W) o) (pw_cell_below hs.be e3)
  have F0 := Aside0.mk (And.intro f0 (And.intro f1 (And.intro f2 f3)))
  have ST0 := Aside0.mk (hs.alloc (.cells #[.int .i64 7, .string n, .int .i64 o, .slice (some ad) 2 c] 42))
  have T0 := Aside0.mk (GrTo.of_below hs (below_alloc (Below.refl _ W) (.cells #[.int .i64 7, .string n, .int .i64 o, .slice (some ad) 2 c] 42)))
  have BX0 : Aside0 ((W.alloc (.cells #[.int .i64 7, .string n, .int .i64 o, .slice (some ad) 2 c] 42)).heap[W.heap.size]? = some (.cells #[.int .i64 7, .string n, .int .i64 o, .slice (some ad) 2 c] 42 (0, 0))) := ⟨heap_alloc_new _ _⟩
  have HY := Aside0.mk (fun va' vb' W' h => hy bd (grT x bd out) va' vb' A1 c1 W' h hC1 hc1 hy1 hy2)
  have q1 : IntKind.i64.wrap 1 = 1 := by decide
  have HLA : Aside0 ((([] : List ByteArray).length + bd.length) * 16 ≤ 140737488355328) := ⟨by simp; omega⟩
  have HLB : Aside0 (((pw_strs bd).length + 1) * 16 ≤ 140737488355328) := ⟨by simp only [pw_strs, List.length_map]; omega⟩
  clear f0 f1 f2 f3 hc1 hC1 hs hr hy hy1 hy2 hb hx hx1 hx2 hc0 hC0
  obtain ⟨B1, d1, rfl, hc2, _⟩ := own_reads_of_le (enc := Value.string) (d := ByteArray.empty) STW.out.rb
  have HRD : Aside0 (∀ W' {o' : List ByteArray} {va' : Value}, GrSt w0 va' (.slice B1 bd.length d1) bd o' W' → ReadsOf Value.string ByteArray.empty W' B1 bd.length bd) := ⟨fun W' _ _ h => own_reads_of' h.rb⟩
  clear hc2
  go_enter Tryd.func74, Tryd.ntmps74
  go_wp2_with (first | (go_at_call 74; (with_reducible refine (HX.out _ ST0.out).mono ?_); rintro e w2 ⟨v2, rfl, g⟩; obtain ⟨A2, N2, c2, rfl⟩ := own_sl3 g.ro; have T2 := Aside0.mk g; have ST2 := Aside0.mk (g.st ST0.out); clear g) | (at_builtin; refine print_append_row_of (w0 := w0) Value.string ByteArray.empty w0.heap.size rfl (.const (.slice none 0 0)) (.tmp 65) 38 9 (.string ⟨#[]⟩) 16 rfl Tryd.underlying38 infoS9 rfl (by decide) (fun _ => rfl) (.slice none 0 0) [] bd B1 bd.length d1 rfl rfl ⟨rfl, .inl ⟨rfl, rfl⟩⟩ (HRD.out _ ST2.out) ST2.out.be (below_size ST2.out.be) HLA.out ?_; intro v3 w3 r2 hb2 hg2 hat; obtain ⟨A3, N3, c3, rfl⟩ := own_sl3 r2; have hcl := GrSt.clone ST2.out (by simpa [pw_strs, encs] using r2) hb2 hg2 hat; have ST3 := Aside0.mk hcl.1; have T3 := Aside0.mk hcl.2; have AT3 := Aside0.mk hat; have m1 : w3.cell? ⟨W.heap.size, 1, none⟩ = some (.string n) := (blk_cell (GrTo.cell ST0.out (GrTo.trans T2.out T3.out) BX0.out (by decide)) 1).trans rfl; have hl1 := World.block_lt_of_cell? w3 _ m1; have m3 : w3.cell? ⟨W.heap.size, 3, none⟩ = some (.slice (some ad) 2 c) := (blk_cell (GrTo.cell ST0.out (GrTo.trans T2.out T3.out) BX0.out (by decide)) 3).trans rfl; have f0 := pw_cell_below ST3.out.be F0.out.1; have f1 := pw_cell_below ST3.out.be F0.out.2.1; have f2 := pw_cell_below ST3.out.be F0.out.2.2.1; have f3 := pw_cell_below ST3.out.be F0.out.2.2.2; clear r2 hb2 hg2 hat hcl) | (go_at_call 74; (with_reducible refine (HY.out _ _ _ ST3.out).mono ?_); rintro e w6 ⟨v6, rfl, g⟩; obtain ⟨A6, N6, c6, rfl⟩ := own_sl3 g.ro; have T6 := Aside0.mk g; clear g))
  go_ret
  exact ⟨_, rfl, GrTo.trans T0.out (GrTo.trans T2.out (GrTo.trans T3.out T6.out))⟩
set_option maxHeartbeats 4000000 in
set_option maxRecDepth 100000 in
theorem gbind72n (w0 : World) (N : Nat) (bd out : List ByteArray) (n : ByteArray) (o : Int) (x y : S42) (va vb : Value) (A : Option Addr) (c : Nat) (W : World)
    (hs : GrSt w0 va vb bd out W) (hr : Kd.C k42 w0 A 2 [x, y]) (hx : GrC w0 N x) (hx1 : bd.length + szT x ≤ N) (hx2 : out.length + szT x ≤ N) (hy : GrC w0 N y) (hy1 : (bd ++ [n]).length + szT y ≤ N) (hy2 : (grT x bd out).length + szT y ≤ N) (hb : bd.length ≤ 100000000) (hu : (!n.toList == [95]) = true) :
    Calls Tryd.prog 74 #[va, .agg #[.int .i64 7, .string n, .int .i64 o, .slice A 2 c], vb] W (GrPost w0 va (grT y (bd ++ [n]) (grT x bd out)) W) := by
  have hu42 := Tryd.underlying42
  have STW := Aside0.mk hs
  obtain ⟨ad, A0, c0, hA, e0, e1, e2, e3, hc0, hC0⟩ := atn42 hr 0 (by omega)
  obtain ⟨ad', A1, c1, hA', f0, f1, f2, f3, hc1, hC1⟩ := atn42 hr 1 (by omega)
  subst hA
  obtain rfl := Option.some.inj hA'
  rw [show rd_T42 [x, y] ((0 : Nat) : Int) = x from rfl] at e0 e1 e2 e3 hc0 hC0
  rw [show ad.add (0 * 4) = ad from Addr.add_zero42 ad] at e0 e1 e2 e3
  rw [show rd_T42 [x, y] ((1 : Nat) : Int) = y from rfl] at f0 f1 f2 f3 hc1 hC1
  rw [Addr.add_one42 ad] at f0 f1 f2 f3
  simp only at f1 f2 f3
  have HX := Aside0.mk (fun W' h => hx bd out va vb A0 c0 W' h hC0 hc0 hx1 hx2)
  replace e0 := fun o => pw_cell_below (below_alloc (Below.refl _ W) o) (pw_cell_below hs.be e0)
  replace e1 := fun o => pw_cell_below (below_alloc (Below.refl _ W) o) (pw_cell_below hs.be e1)
  replace e2 := fun o => pw_cell_below (below_alloc (Below.refl _ W) o) (pw_cell_below hs.be e2)
  replace e3 := fun o => pw_cell_below (below_alloc (Below.refl _ W) o) (pw_cell_below hs.be e3)
  have F0 := Aside0.mk (And.intro f0 (And.intro f1 (And.intro f2 f3)))
  have ST0 := Aside0.mk (hs.alloc (.cells #[.int .i64 7, .string n, .int .i64 o, .slice (some ad) 2 c] 42))
  have T0 := Aside0.mk (GrTo.of_below hs (below_alloc (Below.refl _ W) (.cells #[.int .i64 7, .string n, .int .i64 o, .slice (some ad) 2 c] 42)))
  have BX0 : Aside0 ((W.alloc (.cells #[.int .i64 7, .string n, .int .i64 o, .slice (some ad) 2 c] 42)).heap[W.heap.size]? = some (.cells #[.int .i64 7, .string n, .int .i64 o, .slice (some ad) 2 c] 42 (0, 0))) := ⟨heap_alloc_new _ _⟩
  have HY := Aside0.mk (fun va' vb' W' h => hy (bd ++ [n]) (grT x bd out) va' vb' A1 c1 W' h hC1 hc1 hy1 hy2)
  have q1 : IntKind.i64.wrap 1 = 1 := by decide
  have HLA : Aside0 ((([] : List ByteArray).length + bd.length) * 16 ≤ 140737488355328) := ⟨by simp; omega⟩
  have HLB : Aside0 (((pw_strs bd).length + 1) * 16 ≤ 140737488355328) := ⟨by simp only [pw_strs, List.length_map]; omega⟩
  clear f0 f1 f2 f3 hc1 hC1 hs hr hy hy1 hy2 hb hx hx1 hx2 hc0 hC0
  obtain ⟨B1, d1, rfl, hc2, _⟩ := own_reads_of_le (enc := Value.string) (d := ByteArray.empty) STW.out.rb
  have HRD : Aside0 (∀ W' {o' : List ByteArray} {va' : Value}, GrSt w0 va' (.slice B1 bd.length d1) bd o' W' → ReadsOf Value.string ByteArray.empty W' B1 bd.length bd) := ⟨fun W' _ _ h => own_reads_of' h.rb⟩
  clear hc2
  go_enter Tryd.func74, Tryd.ntmps74
  go_wp2_with (first | (go_at_call 74; (with_reducible refine (HX.out _ ST0.out).mono ?_); rintro e w2 ⟨v2, rfl, g⟩; obtain ⟨A2, N2, c2, rfl⟩ := own_sl3 g.ro; have T2 := Aside0.mk g; have ST2 := Aside0.mk (g.st ST0.out); clear g) | (at_builtin; refine print_append_row_of (w0 := w0) Value.string ByteArray.empty w0.heap.size rfl (.const (.slice none 0 0)) (.tmp 65) 38 9 (.string ⟨#[]⟩) 16 rfl Tryd.underlying38 infoS9 rfl (by decide) (fun _ => rfl) (.slice none 0 0) [] bd B1 bd.length d1 rfl rfl ⟨rfl, .inl ⟨rfl, rfl⟩⟩ (HRD.out _ ST2.out) ST2.out.be (below_size ST2.out.be) HLA.out ?_; intro v3 w3 r2 hb2 hg2 hat; obtain ⟨A3, N3, c3, rfl⟩ := own_sl3 r2; have hcl := GrSt.clone ST2.out (by simpa [pw_strs, encs] using r2) hb2 hg2 hat; have ST3 := Aside0.mk hcl.1; have T3 := Aside0.mk hcl.2; have AT3 := Aside0.mk hat; have m1 : w3.cell? ⟨W.heap.size, 1, none⟩ = some (.string n) := (blk_cell (GrTo.cell ST0.out (GrTo.trans T2.out T3.out) BX0.out (by decide)) 1).trans rfl; have hl1 := World.block_lt_of_cell? w3 _ m1; clear r2 hb2 hg2 hat hcl) | (at_builtin; refine print_append (w0 := w0) (W := w3) w0.heap.size rfl (.tmp 70) (.tmp 73) 38 9 (.string ⟨#[]⟩) 16 rfl Tryd.underlying38 infoS9 rfl (by decide) (.slice A3 N3 c3) (pw_strs bd) (.string n) rfl rfl rfl (by simpa [pw_strs] using ST3.out.rb) ST3.out.be (below_size ST3.out.be) HLB.out ?_; intro v4 w4 r2 hb2 hg2 hat; obtain ⟨A4, N4, c4, rfl⟩ := own_sl3 r2; have hbi := GrSt.bind ST3.out T3.out AT3.out (by simpa [pw_strs] using r2) hb2 hg2 hat; have ST4 := Aside0.mk hbi.1; have T4 := Aside0.mk hbi.2; have m3 : w4.cell? ⟨W.heap.size, 3, none⟩ = some (.slice (some ad) 2 c) := (blk_cell (GrTo.cell ST0.out (GrTo.trans T2.out T4.out) BX0.out (by decide)) 3).trans rfl; have f0 := pw_cell_below ST4.out.be F0.out.1; have f1 := pw_cell_below ST4.out.be F0.out.2.1; have f2 := pw_cell_below ST4.out.be F0.out.2.2.1; have f3 := pw_cell_below ST4.out.be F0.out.2.2.2; clear r2 hb2 hg2 hat hbi) | (go_at_call 74; (with_reducible refine (HY.out _ _ _ ST4.out).mono ?_); rintro e w6 ⟨v6, rfl, g⟩; obtain ⟨A6, N6, c6, rfl⟩ := own_sl3 g.ro; have T6 := Aside0.mk g; clear g))
  go_ret
  exact ⟨_, rfl, GrTo.trans T0.out (GrTo.trans T2.out (GrTo.trans T4.out T6.out))⟩
set_option maxHeartbeats 4000000 in
set_option maxRecDepth 100000 in
theorem gbind81u (w0 : World) (N : Nat) (bd out : List ByteArray) (n : ByteArray) (o : Int) (y : S42) (va vb : Value) (A : Option Addr) (c : Nat) (W : World)
    (hs : GrSt w0 va vb bd out W) (hr : Kd.C k42 w0 A 1 [y]) (hy : GrC w0 N y) (hy1 : bd.length + szT y ≤ N) (hy2 : out.length + szT y ≤ N) (hb : bd.length ≤ 100000000) (hu : (!n.toList == [95]) = false) :
    Calls Tryd.prog 74 #[va, .agg #[.int .i64 8, .string n, .int .i64 o, .slice A 1 c], vb] W (GrPost w0 va (grT y bd out) W) := by
  have hu42 := Tryd.underlying42
  have STW := Aside0.mk hs
  obtain ⟨ad, A1, c1, hA, f0, f1, f2, f3, hc1, hC1⟩ := atn42 hr 0 (by omega)
  subst hA
  rw [show rd_T42 [y] ((0 : Nat) : Int) = y from rfl] at f0 f1 f2 f3 hc1 hC1
  rw [show ad.add (0 * 4) = ad from Addr.add_zero42 ad] at f0 f1 f2 f3
  have F0 := Aside0.mk (And.intro f0 (And.intro f1 (And.intro f2 f3)))
  have ST0 := Aside0.mk (hs.alloc (.cells #[.int .i64 8, .string n, .int .i64 o, .slice (some ad) 1 c] 42))
  have T0 := Aside0.mk (GrTo.of_below hs (below_alloc (Below.refl _ W) (.cells #[.int .i64 8, .string n, .int .i64 o, .slice (some ad) 1 c] 42)))
  have BX0 : Aside0 ((W.alloc (.cells #[.int .i64 8, .string n, .int .i64 o, .slice (some ad) 1 c] 42)).heap[W.heap.size]? = some (.cells #[.int .i64 8, .string n, .int .i64 o, .slice (some ad) 1 c] 42 (0, 0))) := ⟨heap_alloc_new _ _⟩
  have HY := Aside0.mk (fun va' vb' W' h => hy bd out va' vb' A1 c1 W' h hC1 hc1 hy1 hy2)
  have q1 : IntKind.i64.wrap 0 = 0 := by decide
  have HLA : Aside0 ((([] : List ByteArray).length + bd.length) * 16 ≤ 140737488355328) := ⟨by simp; omega⟩
  have HLB : Aside0 (((pw_strs bd).length + 1) * 16 ≤ 140737488355328) := ⟨by simp only [pw_strs, List.length_map]; omega⟩
  clear f0 f1 f2 f3 hc1 hC1 hs hr hy hy1 hy2 hb
  obtain ⟨B1, d1, rfl, hc2, _⟩ := own_reads_of_le (enc := Value.string) (d := ByteArray.empty) STW.out.rb
  have HRD : Aside0 (∀ W' {o' : List ByteArray} {va' : Value}, GrSt w0 va' (.slice B1 bd.length d1) bd o' W' → ReadsOf Value.string ByteArray.empty W' B1 bd.length bd) := ⟨fun W' _ _ h => own_reads_of' h.rb⟩
  clear hc2
  go_enter Tryd.func74, Tryd.ntmps74
  have ST2 := ST0
  have T2 := Aside0.mk (GrTo.of_below ST0.out (Below.refl _ _))
  go_wp2_with (first | (at_builtin; refine print_append_row_of (w0 := w0) Value.string ByteArray.empty w0.heap.size rfl (.const (.slice none 0 0)) (.tmp 65) 38 9 (.string ⟨#[]⟩) 16 rfl Tryd.underlying38 infoS9 rfl (by decide) (fun _ => rfl) (.slice none 0 0) [] bd B1 bd.length d1 rfl rfl ⟨rfl, .inl ⟨rfl, rfl⟩⟩ (HRD.out _ ST2.out) ST2.out.be (below_size ST2.out.be) HLA.out ?_; intro v3 w3 r2 hb2 hg2 hat; obtain ⟨A3, N3, c3, rfl⟩ := own_sl3 r2; have hcl := GrSt.clone ST2.out (by simpa [pw_strs, encs] using r2) hb2 hg2 hat; have ST3 := Aside0.mk hcl.1; have T3 := Aside0.mk hcl.2; have AT3 := Aside0.mk hat; have m1 : w3.cell? ⟨W.heap.size, 1, none⟩ = some (.string n) := (blk_cell (GrTo.cell ST0.out (GrTo.trans T2.out T3.out) BX0.out (by decide)) 1).trans rfl; have hl1 := World.block_lt_of_cell? w3 _ m1; have m3 : w3.cell? ⟨W.heap.size, 3, none⟩ = some (.slice (some ad) 1 c) := (blk_cell (GrTo.cell ST0.out (GrTo.trans T2.out T3.out) BX0.out (by decide)) 3).trans rfl; have f0 := pw_cell_below ST3.out.be F0.out.1; have f1 := pw_cell_below ST3.out.be F0.out.2.1; have f2 := pw_cell_below ST3.out.be F0.out.2.2.1; have f3 := pw_cell_below ST3.out.be F0.out.2.2.2; clear r2 hb2 hg2 hat hcl) | (go_at_call 74; (with_reducible refine (HY.out _ _ _ ST3.out).mono ?_); rintro e w6 ⟨v6, rfl, g⟩; obtain ⟨A6, N6, c6, rfl⟩ := own_sl3 g.ro; have T6 := Aside0.mk g; clear g))
  go_ret
  exact ⟨_, rfl, GrTo.trans T0.out (GrTo.trans T2.out (GrTo.trans T3.out T6.out))⟩
set_option maxHeartbeats 4000000 in
set_option maxRecDepth 100000 in
theorem gbind81n (w0 : World) (N : Nat) (bd out : List ByteArray) (n : ByteArray) (o : Int) (y : S42) (va vb : Value) (A : Option Addr) (c : Nat) (W : World)
    (hs : GrSt w0 va vb bd out W) (hr : Kd.C k42 w0 A 1 [y]) (hy : GrC w0 N y) (hy1 : (bd ++ [n]).length + szT y ≤ N) (hy2 : out.length + szT y ≤ N) (hb : bd.length ≤ 100000000) (hu : (!n.toList == [95]) = true) :
    Calls Tryd.prog 74 #[va, .agg #[.int .i64 8, .string n, .int .i64 o, .slice A 1 c], vb] W (GrPost w0 va (grT y (bd ++ [n]) out) W) := by
  have hu42 := Tryd.underlying42
  have STW := Aside0.mk hs
  obtain ⟨ad, A1, c1, hA, f0, f1, f2, f3, hc1, hC1⟩ := atn42 hr 0 (by omega)
  subst hA
  rw [show rd_T42 [y] ((0 : Nat) : Int) = y from rfl] at f0 f1 f2 f3 hc1 hC1
  rw [show ad.add (0 * 4) = ad from Addr.add_zero42 ad] at f0 f1 f2 f3
  have F0 := Aside0.mk (And.intro f0 (And.intro f1 (And.intro f2 f3)))
  have ST0 := Aside0.mk (hs.alloc (.cells #[.int .i64 8, .string n, .int .i64 o, .slice (some ad) 1 c] 42))
  have T0 := Aside0.mk (GrTo.of_below hs (below_alloc (Below.refl _ W) (.cells #[.int .i64 8, .string n, .int .i64 o, .slice (some ad) 1 c] 42)))
  have BX0 : Aside0 ((W.alloc (.cells #[.int .i64 8, .string n, .int .i64 o, .slice (some ad) 1 c] 42)).heap[W.heap.size]? = some (.cells #[.int .i64 8, .string n, .int .i64 o, .slice (some ad) 1 c] 42 (0, 0))) := ⟨heap_alloc_new _ _⟩
  have HY := Aside0.mk (fun va' vb' W' h => hy (bd ++ [n]) out va' vb' A1 c1 W' h hC1 hc1 hy1 hy2)
  have q1 : IntKind.i64.wrap 0 = 0 := by decide
  have HLA : Aside0 ((([] : List ByteArray).length + bd.length) * 16 ≤ 140737488355328) := ⟨by simp; omega⟩
  have HLB : Aside0 (((pw_strs bd).length + 1) * 16 ≤ 140737488355328) := ⟨by simp only [pw_strs, List.length_map]; omega⟩
  clear f0 f1 f2 f3 hc1 hC1 hs hr hy hy1 hy2 hb
  obtain ⟨B1, d1, rfl, hc2, _⟩ := own_reads_of_le (enc := Value.string) (d := ByteArray.empty) STW.out.rb
  have HRD : Aside0 (∀ W' {o' : List ByteArray} {va' : Value}, GrSt w0 va' (.slice B1 bd.length d1) bd o' W' → ReadsOf Value.string ByteArray.empty W' B1 bd.length bd) := ⟨fun W' _ _ h => own_reads_of' h.rb⟩
  clear hc2
  go_enter Tryd.func74, Tryd.ntmps74
  have ST2 := ST0
  have T2 := Aside0.mk (GrTo.of_below ST0.out (Below.refl _ _))
  go_wp2_with (first | (at_builtin; refine print_append_row_of (w0 := w0) Value.string ByteArray.empty w0.heap.size rfl (.const (.slice none 0 0)) (.tmp 65) 38 9 (.string ⟨#[]⟩) 16 rfl Tryd.underlying38 infoS9 rfl (by decide) (fun _ => rfl) (.slice none 0 0) [] bd B1 bd.length d1 rfl rfl ⟨rfl, .inl ⟨rfl, rfl⟩⟩ (HRD.out _ ST2.out) ST2.out.be (below_size ST2.out.be) HLA.out ?_; intro v3 w3 r2 hb2 hg2 hat; obtain ⟨A3, N3, c3, rfl⟩ := own_sl3 r2; have hcl := GrSt.clone ST2.out (by simpa [pw_strs, encs] using r2) hb2 hg2 hat; have ST3 := Aside0.mk hcl.1; have T3 := Aside0.mk hcl.2; have AT3 := Aside0.mk hat; have m1 : w3.cell? ⟨W.heap.size, 1, none⟩ = some (.string n) := (blk_cell (GrTo.cell ST0.out (GrTo.trans T2.out T3.out) BX0.out (by decide)) 1).trans rfl; have hl1 := World.block_lt_of_cell? w3 _ m1; clear r2 hb2 hg2 hat hcl) | (at_builtin; refine print_append (w0 := w0) (W := w3) w0.heap.size rfl (.tmp 70) (.tmp 73) 38 9 (.string ⟨#[]⟩) 16 rfl Tryd.underlying38 infoS9 rfl (by decide) (.slice A3 N3 c3) (pw_strs bd) (.string n) rfl rfl rfl (by simpa [pw_strs] using ST3.out.rb) ST3.out.be (below_size ST3.out.be) HLB.out ?_; intro v4 w4 r2 hb2 hg2 hat; obtain ⟨A4, N4, c4, rfl⟩ := own_sl3 r2; have hbi := GrSt.bind ST3.out T3.out AT3.out (by simpa [pw_strs] using r2) hb2 hg2 hat; have ST4 := Aside0.mk hbi.1; have T4 := Aside0.mk hbi.2; have m3 : w4.cell? ⟨W.heap.size, 3, none⟩ = some (.slice (some ad) 1 c) := (blk_cell (GrTo.cell ST0.out (GrTo.trans T2.out T4.out) BX0.out (by decide)) 3).trans rfl; have f0 := pw_cell_below ST4.out.be F0.out.1; have f1 := pw_cell_below ST4.out.be F0.out.2.1; have f2 := pw_cell_below ST4.out.be F0.out.2.2.1; have f3 := pw_cell_below ST4.out.be F0.out.2.2.2; clear r2 hb2 hg2 hat hbi) | (go_at_call 74; (with_reducible refine (HY.out _ _ _ ST4.out).mono ?_); rintro e w6 ⟨v6, rfl, g⟩; obtain ⟨A6, N6, c6, rfl⟩ := own_sl3 g.ro; have T6 := Aside0.mk g; clear g))
  go_ret
  exact ⟨_, rfl, GrTo.trans T0.out (GrTo.trans T2.out (GrTo.trans T4.out T6.out))⟩
set_option maxHeartbeats 4000000 in
set_option maxRecDepth 100000 in
theorem gbind82u (w0 : World) (N : Nat) (bd out : List ByteArray) (n : ByteArray) (o : Int) (x y : S42) (va vb : Value) (A : Option Addr) (c : Nat) (W : World)
    (hs : GrSt w0 va vb bd out W) (hr : Kd.C k42 w0 A 2 [x, y]) (hx : GrC w0 N x) (hx1 : bd.length + szT x ≤ N) (hx2 : out.length + szT x ≤ N) (hy : GrC w0 N y) (hy1 : bd.length + szT y ≤ N) (hy2 : (grT x bd out).length + szT y ≤ N) (hb : bd.length ≤ 100000000) (hu : (!n.toList == [95]) = false) :
    Calls Tryd.prog 74 #[va, .agg #[.int .i64 8, .string n, .int .i64 o, .slice A 2 c], vb] W (GrPost w0 va (grT y bd (grT x bd out)) W) := by
  have hu42 := Tryd.underlying42
  have STW := Aside0.mk hs
  obtain ⟨ad, A0, c0, hA, e0, e1, e2, e3, hc0, hC0⟩ := atn42 hr 0 (by omega)
  obtain ⟨ad', A1, c1, hA', f0, f1, f2, f3, hc1, hC1⟩ := atn42 hr 1 (by omega)
  subst hA
  obtain rfl := Option.some.inj hA'
  rw [show rd_T42 [x, y] ((0 : Nat) : Int) = x from rfl] at e0 e1 e2 e3 hc0 hC0
  rw [show ad.add (0 * 4) = ad from Addr.add_zero42 ad] at e0 e1 e2 e3
  rw [show rd_T42 [x, y] ((1 : Nat) : Int) = y from rfl] at f0 f1 f2 f3 hc1 hC1
  rw [Addr.add_one42 ad] at f0 f1 f2 f3
  simp only at f1 f2 f3
  have HX := Aside0.mk (fun W' h => hx bd out va vb A0 c0 W' h hC0 hc0 hx1 hx2)
  replace e0 := fun o => pw_cell_below (below_alloc (Below.refl _ W) o) (pw_cell_below hs.be e0)
  replace e1 := fun o => pw_cell_below (below_alloc (Below.refl _ W) o) (pw_cell_below hs.be e1)
  replace e2 := fun o => pw_cell_below (below_alloc (Below.refl _ W) o) (pw_cell_below hs.be e2)
  replace e3 := fun o => pw_cell_below (below_alloc (Below.refl _ W) o) (pw_cell_below hs.be e3)
  have F0 := Aside0.mk (And.intro f0 (And.intro f1 (And.intro f2 f3)))
  have ST0 := Aside0.mk (hs.alloc (.cells #[.int .i64 8, .string n, .int .i64 o, .slice (some ad) 2 c] 42))
  have T0 := Aside0.mk (GrTo.of_below hs (below_alloc (Below.refl _ W) (.cells #[.int .i64 8, .string n, .int .i64 o, .slice (some ad) 2 c] 42)))
  have BX0 : Aside0 ((W.alloc (.cells #[.int .i64 8, .string n, .int .i64 o, .slice (some ad) 2 c] 42)).heap[W.heap.size]? = some (.cells #[.int .i64 8, .string n, .int .i64 o, .slice (some ad) 2 c] 42 (0, 0))) := ⟨heap_alloc_new _ _⟩
  have HY := Aside0.mk (fun va' vb' W' h => hy bd (grT x bd out) va' vb' A1 c1 W' h hC1 hc1 hy1 hy2)
  have q1 : IntKind.i64.wrap 1 = 1 := by decide
  have HLA : Aside0 ((([] : List ByteArray).length + bd.length) * 16 ≤ 140737488355328) := ⟨by simp; omega⟩
  have HLB : Aside0 (((pw_strs bd).length + 1) * 16 ≤ 140737488355328) := ⟨by simp only [pw_strs, List.length_map]; omega⟩
  clear f0 f1 f2 f3 hc1 hC1 hs hr hy hy1 hy2 hb hx hx1 hx2 hc0 hC0
  obtain ⟨B1, d1, rfl, hc2, _⟩ := own_reads_of_le (enc := Value.string) (d := ByteArray.empty) STW.out.rb
  have HRD : Aside0 (∀ W' {o' : List ByteArray} {va' : Value}, GrSt w0 va' (.slice B1 bd.length d1) bd o' W' → ReadsOf Value.string ByteArray.empty W' B1 bd.length bd) := ⟨fun W' _ _ h => own_reads_of' h.rb⟩
  clear hc2
  go_enter Tryd.func74, Tryd.ntmps74
  go_wp2_with (first | (go_at_call 74; (with_reducible refine (HX.out _ ST0.out).mono ?_); rintro e w2 ⟨v2, rfl, g⟩; obtain ⟨A2, N2, c2, rfl⟩ := own_sl3 g.ro; have T2 := Aside0.mk g; have ST2 := Aside0.mk (g.st ST0.out); clear g) | (at_builtin; refine print_append_row_of (w0 := w0) Value.string ByteArray.empty w0.heap.size rfl (.const (.slice none 0 0)) (.tmp 65) 38 9 (.string ⟨#[]⟩) 16 rfl Tryd.underlying38 infoS9 rfl (by decide) (fun _ => rfl) (.slice none 0 0) [] bd B1 bd.length d1 rfl rfl ⟨rfl, .inl ⟨rfl, rfl⟩⟩ (HRD.out _ ST2.out) ST2.out.be (below_size ST2.out.be) HLA.out ?_; intro v3 w3 r2 hb2 hg2 hat; obtain ⟨A3, N3, c3, rfl⟩ := own_sl3 r2; have hcl := GrSt.clone ST2.out (by simpa [pw_strs, encs] using r2) hb2 hg2 hat; have ST3 := Aside0.mk hcl.1; have T3 := Aside0.mk hcl.2; have AT3 := Aside0.mk hat; have m1 : w3.cell? ⟨W.heap.size, 1, none⟩ = some (.string n) := (blk_cell (GrTo.cell ST0.out (GrTo.trans T2.out T3.out) BX0.out (by decide)) 1).trans rfl; have hl1 := World.block_lt_of_cell? w3 _ m1; have m3 : w3.cell? ⟨W.heap.size, 3, none⟩ = some (.slice (some ad) 2 c) := (blk_cell (GrTo.cell ST0.out (GrTo.trans T2.out T3.out) BX0.out (by decide)) 3).trans rfl; have f0 := pw_cell_below ST3.out.be F0.out.1; have f1 := pw_cell_below ST3.out.be F0.out.2.1; have f2 := pw_cell_below ST3.out.be F0.out.2.2.1; have f3 := pw_cell_below ST3.out.be F0.out.2.2.2; clear r2 hb2 hg2 hat hcl) | (go_at_call 74; (with_reducible refine (HY.out _ _ _ ST3.out).mono ?_); rintro e w6 ⟨v6, rfl, g⟩; obtain ⟨A6, N6, c6, rfl⟩ := own_sl3 g.ro; have T6 := Aside0.mk g; clear g))
  go_ret
  exact ⟨_, rfl, GrTo.trans T0.out (GrTo.trans T2.out (GrTo.trans T3.out T6.out))⟩
set_option maxHeartbeats 4000000 in
set_option maxRecDepth 100000 in
theorem gbind82n (w0 : World) (N : Nat) (bd out : List ByteArray) (n : ByteArray) (o : Int) (x y : S42) (va vb : Value) (A : Option Addr) (c : Nat) (W : World)
    (hs : GrSt w0 va vb bd out W) (hr : Kd.C k42 w0 A 2 [x, y]) (hx : GrC w0 N x) (hx1 : bd.length + szT x ≤ N) (hx2 : out.length + szT x ≤ N) (hy : GrC w0 N y) (hy1 : (bd ++ [n]).length + szT y ≤ N) (hy2 : (grT x bd out).length + szT y ≤ N) (hb : bd.length ≤ 100000000) (hu : (!n.toList == [95]) = true) :
    Calls Tryd.prog 74 #[va, .agg #[.int .i64 8, .string n, .int .i64 o, .slice A 2 c], vb] W (GrPost w0 va (grT y (bd ++ [n]) (grT x bd out)) W) := by
  have hu42 := Tryd.underlying42
  have STW := Aside0.mk hs
  obtain ⟨ad, A0, c0, hA, e0, e1, e2, e3, hc0, hC0⟩ := atn42 hr 0 (by omega)
  obtain ⟨ad', A1, c1, hA', f0, f1, f2, f3, hc1, hC1⟩ := atn42 hr 1 (by omega)
  subst hA
  obtain rfl := Option.some.inj hA'
  rw [show rd_T42 [x, y] ((0 : Nat) : Int) = x from rfl] at e0 e1 e2 e3 hc0 hC0
  rw [show ad.add (0 * 4) = ad from Addr.add_zero42 ad] at e0 e1 e2 e3
  rw [show rd_T42 [x, y] ((1 : Nat) : Int) = y from rfl] at f0 f1 f2 f3 hc1 hC1
  rw [Addr.add_one42 ad] at f0 f1 f2 f3
  simp only at f1 f2 f3
  have HX := Aside0.mk (fun W' h => hx bd out va vb A0 c0 W' h hC0 hc0 hx1 hx2)
  replace e0 := fun o => pw_cell_below (below_alloc (Below.refl _ W) o) (pw_cell_below hs.be e0)
  replace e1 := fun o => pw_cell_below (below_alloc (Below.refl _ W) o) (pw_cell_below hs.be e1)
  replace e2 := fun o => pw_cell_below (below_alloc (Below.refl _ W) o) (pw_cell_below hs.be e2)
  replace e3 := fun o => pw_cell_below (below_alloc (Below.refl _ W) o) (pw_cell_below hs.be e3)
  have F0 := Aside0.mk (And.intro f0 (And.intro f1 (And.intro f2 f3)))
  have ST0 := Aside0.mk (hs.alloc (.cells #[.int .i64 8, .string n, .int .i64 o, .slice (some ad) 2 c] 42))
  have T0 := Aside0.mk (GrTo.of_below hs (below_alloc (Below.refl _ W) (.cells #[.int .i64 8, .string n, .int .i64 o, .slice (some ad) 2 c] 42)))
  have BX0 : Aside0 ((W.alloc (.cells #[.int .i64 8, .string n, .int .i64 o, .slice (some ad) 2 c] 42)).heap[W.heap.size]? = some (.cells #[.int .i64 8, .string n, .int .i64 o, .slice (some ad) 2 c] 42 (0, 0))) := ⟨heap_alloc_new _ _⟩
  have HY := Aside0.mk (fun va' vb' W' h => hy (bd ++ [n]) (grT x bd out) va' vb' A1 c1 W' h hC1 hc1 hy1 hy2)
  have q1 : IntKind.i64.wrap 1 = 1 := by decide
  have HLA : Aside0 ((([] : List ByteArray).length + bd.length) * 16 ≤ 140737488355328) := ⟨by simp; omega⟩
  have HLB : Aside0 (((pw_strs bd).length + 1) * 16 ≤ 140737488355328) := ⟨by simp only [pw_strs, List.length_map]; omega⟩
  clear f0 f1 f2 f3 hc1 hC1 hs hr hy hy1 hy2 hb hx hx1 hx2 hc0 hC0
  obtain ⟨B1, d1, rfl, hc2, _⟩ := own_reads_of_le (enc := Value.string) (d := ByteArray.empty) STW.out.rb
  have HRD : Aside0 (∀ W' {o' : List ByteArray} {va' : Value}, GrSt w0 va' (.slice B1 bd.length d1) bd o' W' → ReadsOf Value.string ByteArray.empty W' B1 bd.length bd) := ⟨fun W' _ _ h => own_reads_of' h.rb⟩
  clear hc2
  go_enter Tryd.func74, Tryd.ntmps74
  go_wp2_with (first | (go_at_call 74; (with_reducible refine (HX.out _ ST0.out).mono ?_); rintro e w2 ⟨v2, rfl, g⟩; obtain ⟨A2, N2, c2, rfl⟩ := own_sl3 g.ro; have T2 := Aside0.mk g; have ST2 := Aside0.mk (g.st ST0.out); clear g) | (at_builtin; refine print_append_row_of (w0 := w0) Value.string ByteArray.empty w0.heap.size rfl (.const (.slice none 0 0)) (.tmp 65) 38 9 (.string ⟨#[]⟩) 16 rfl Tryd.underlying38 infoS9 rfl (by decide) (fun _ => rfl) (.slice none 0 0) [] bd B1 bd.length d1 rfl rfl ⟨rfl, .inl ⟨rfl, rfl⟩⟩ (HRD.out _ ST2.out) ST2.out.be (below_size ST2.out.be) HLA.out ?_; intro v3 w3 r2 hb2 hg2 hat; obtain ⟨A3, N3, c3, rfl⟩ := own_sl3 r2; have hcl := GrSt.clone ST2.out (by simpa [pw_strs, encs] using r2) hb2 hg2 hat; have ST3 := Aside0.mk hcl.1; have T3 := Aside0.mk hcl.2; have AT3 := Aside0.mk hat; have m1 : w3.cell? ⟨W.heap.size, 1, none⟩ = some (.string n) := (blk_cell (GrTo.cell ST0.out (GrTo.trans T2.out T3.out) BX0.out (by decide)) 1).trans rfl; have hl1 := World.block_lt_of_cell? w3 _ m1; clear r2 hb2 hg2 hat hcl) | (at_builtin; refine print_append (w0 := w0) (W := w3) w0.heap.size rfl (.tmp 70) (.tmp 73) 38 9 (.string ⟨#[]⟩) 16 rfl Tryd.underlying38 infoS9 rfl (by decide) (.slice A3 N3 c3) (pw_strs bd) (.string n) rfl rfl rfl (by simpa [pw_strs] using ST3.out.rb) ST3.out.be (below_size ST3.out.be) HLB.out ?_; intro v4 w4 r2 hb2 hg2 hat; obtain ⟨A4, N4, c4, rfl⟩ := own_sl3 r2; have hbi := GrSt.bind ST3.out T3.out AT3.out (by simpa [pw_strs] using r2) hb2 hg2 hat; have ST4 := Aside0.mk hbi.1; have T4 := Aside0.mk hbi.2; have m3 : w4.cell? ⟨W.heap.size, 3, none⟩ = some (.slice (some ad) 2 c) := (blk_cell (GrTo.cell ST0.out (GrTo.trans T2.out T4.out) BX0.out (by decide)) 3).trans rfl; have f0 := pw_cell_below ST4.out.be F0.out.1; have f1 := pw_cell_below ST4.out.be F0.out.2.1; have f2 := pw_cell_below ST4.out.be F0.out.2.2.1; have f3 := pw_cell_below ST4.out.be F0.out.2.2.2; clear r2 hb2 hg2 hat hbi) | (go_at_call 74; (with_reducible refine (HY.out _ _ _ ST4.out).mono ?_); rintro e w6 ⟨v6, rfl, g⟩; obtain ⟨A6, N6, c6, rfl⟩ := own_sl3 g.ro; have T6 := Aside0.mk g; clear g))
  go_ret
  exact ⟨_, rfl, GrTo.trans T0.out (GrTo.trans T2.out (GrTo.trans T4.out T6.out))⟩
set_option maxHeartbeats 4000000 in
set_option maxRecDepth 100000 in
theorem gwalk3 (w0 : World) (N : Nat) (bd out : List ByteArray) (n : ByteArray) (o : Int) (l : List S42) (va vb : Value) (A : Option Addr) (c : Nat) (W : World)
    (hs : GrSt w0 va vb bd out W) (hr : Kd.C k42 w0 A l.length l) (hll : l.length ≤ 1000000) (hx : ∀ j, j < l.length → GrC w0 N (rd_T42 l (j : Int)))
    (hb1 : ∀ j, j < l.length → bd.length + szT (rd_T42 l (j : Int)) ≤ N) (hb2 : ∀ j, j < l.length → (outG bd out l j).length + szT (rd_T42 l (j : Int)) ≤ N) (post : List ByteArray) (hp : outG bd out l l.length = post) :
    Calls Tryd.prog 74 #[va, .agg #[.int .i64 3, .string n, .int .i64 o, .slice A l.length c], vb] W (GrPost w0 va post W) := by
  have hu42 := Tryd.underlying42
  have ST0 := Aside0.mk (hs.alloc (.cells #[.int .i64 3, .string n, .int .i64 o, .slice A l.length c] 42))
  have T0 := Aside0.mk (GrTo.of_below hs (below_alloc (Below.refl _ W) (.cells #[.int .i64 3, .string n, .int .i64 o, .slice A l.length c] 42)))
  have T00 := Aside0.mk (GrTo.of_below ST0.out (Below.refl _ _))
  have BX0 : Aside0 ((W.alloc (.cells #[.int .i64 3, .string n, .int .i64 o, .slice A l.length c] 42)).heap[W.heap.size]? = some (.cells #[.int .i64 3, .string n, .int .i64 o, .slice A l.length c] 42 (0, 0))) := ⟨heap_alloc_new _ _⟩
  have HX := Aside0.mk hx
  have HB1 := Aside0.mk hb1
  have HB2 := Aside0.mk hb2
  have HP := Aside0.mk hp
  have HR := Aside0.mk hr
  have HLL := Aside0.mk hll
  have HZ := Aside0.mk (outG_zero bd out l)
  clear hs hr hx hb1 hb2 hp
  go_enter Tryd.func74, Tryd.ntmps74
  go_wp2_with fail
  go_loopw [0, 8] (fun v i w' => ∃ j : Nat, j ≤ l.length ∧ i = .int .i64 j ∧ Aside0 (GrTo w0 va v (outG bd out l j) (W.alloc (.cells #[.int .i64 3, .string n, .int .i64 o, .slice A l.length c] 42)) w')) (fun _ i _ => l.length - (intOf i).toNat)
  case atStart => exact ⟨0, by omega, rfl, ⟨by rw [HZ.out]; exact T00.out⟩⟩
  case round =>
    obtain ⟨j, hj, rfl, HT⟩ := hrel
    have HS := Aside0.mk (HT.out.st ST0.out)
    have m3 : wr.cell? ⟨W.heap.size, 3, none⟩ = some (.slice A l.length c) := (blk_cell (GrTo.cell ST0.out HT.out BX0.out (by decide)) 3).trans rfl
    by_cases hlt : j < l.length
    · have hS := outG_succ bd out l j hlt
      obtain ⟨ad, A3, c3, hA, h0, h1, h2, h3, hc3, hC3⟩ := atn42 HR.out j hlt
      subst hA
      have HM := Aside0.mk (HX.out j hlt bd (outG bd out l j) u0 vb A3 c3)
      have b1 := HB1.out j hlt
      have b2 := HB2.out j hlt
      generalize rd_T42 l (j : Int) = x at *
      replace h0 := pw_cell_below HS.out.be h0
      replace h1 := pw_cell_below HS.out.be h1
      replace h2 := pw_cell_below HS.out.be h2
      replace h3 := pw_cell_below HS.out.be h3
      have q0 := eq_true (show (0 : Int) ≤ (j : Int) by omega)
      have q1 := eq_true (show (j : Int) < (l.length : Int) by omega)
      have q2 : IntKind.i64.wrap ((j : Int) + 1) = (j : Int) + 1 := IntWalk.i64_in _ (by omega)
      have HSU := Aside0.mk hS
      have HC3 := Aside0.mk hC3
      have Hc3 := Aside0.mk hc3
      have B1 := Aside0.mk b1
      have B2 := Aside0.mk b2
      have HLT := Aside0.mk hlt
      clear hS hC3 hc3 b1 b2 hj hll
      go_wp2_with (go_at_call 74; (with_reducible refine (HM.out _ HS.out HC3.out Hc3.out B1.out B2.out).mono ?_); rintro e w1 ⟨v1, rfl, g⟩; have T1 := Aside0.mk (GrTo.trans HT.out g); clear g)
      go_roundw
      case rel => exact ⟨j + 1, HLT.out, by go_num, ⟨by rw [HSU.out]; exact T1.out⟩⟩
      case measure => simp [intOf]; omega
    · have q1 := eq_false (show ¬ ((j : Int) < (l.length : Int)) by omega)
      have hj2 : j = l.length := by omega
      have HS2 : Aside0 (GrTo w0 va u0 post (W.alloc (.cells #[.int .i64 3, .string n, .int .i64 o, .slice A l.length c] 42)) wr) := ⟨by rw [show post = outG bd out l j from by rw [← HP.out, hj2]]; exact HT.out⟩
      clear hj2 hlt HS HT
      obtain ⟨A9, N9, c9, rfl⟩ := own_sl3 HS2.out.ro
      go_wp2
      go_ret
      exact ⟨_, rfl, GrTo.trans T0.out HS2.out⟩
set_option maxHeartbeats 4000000 in
set_option maxRecDepth 100000 in
theorem gwalk4 (w0 : World) (N : Nat) (bd out : List ByteArray) (n : ByteArray) (o : Int) (l : List S42) (va vb : Value) (A : Option Addr) (c : Nat) (W : World)
    (hs : GrSt w0 va vb bd out W) (hr : Kd.C k42 w0 A l.length l) (hll : l.length ≤ 1000000) (hx : ∀ j, j < l.length → GrC w0 N (rd_T42 l (j : Int)))
    (hb1 : ∀ j, j < l.length → bd.length + szT (rd_T42 l (j : Int)) ≤ N) (hb2 : ∀ j, j < l.length → (outG bd out l j).length + szT (rd_T42 l (j : Int)) ≤ N) (post : List ByteArray) (hp : outG bd out l l.length = post) :
    Calls Tryd.prog 74 #[va, .agg #[.int .i64 4, .string n, .int .i64 o, .slice A l.length c], vb] W (GrPost w0 va post W) := by
  have hu42 := Tryd.underlying42
  have ST0 := Aside0.mk (hs.alloc (.cells #[.int .i64 4, .string n, .int .i64 o, .slice A l.length c] 42))
  have T0 := Aside0.mk (GrTo.of_below hs (below_alloc (Below.refl _ W) (.cells #[.int .i64 4, .string n, .int .i64 o, .slice A l.length c] 42)))
  have T00 := Aside0.mk (GrTo.of_below ST0.out (Below.refl _ _))
  have BX0 : Aside0 ((W.alloc (.cells #[.int .i64 4, .string n, .int .i64 o, .slice A l.length c] 42)).heap[W.heap.size]? = some (.cells #[.int .i64 4, .string n, .int .i64 o, .slice A l.length c] 42 (0, 0))) := ⟨heap_alloc_new _ _⟩
  have HX := Aside0.mk hx
  have HB1 := Aside0.mk hb1
  have HB2 := Aside0.mk hb2
  have HP := Aside0.mk hp
  have HR := Aside0.mk hr
  have HLL := Aside0.mk hll
  have HZ := Aside0.mk (outG_zero bd out l)
  clear hs hr hx hb1 hb2 hp
  go_enter Tryd.func74, Tryd.ntmps74
  go_wp2_with fail
  go_loopw [0, 8] (fun v i w' => ∃ j : Nat, j ≤ l.length ∧ i = .int .i64 j ∧ Aside0 (GrTo w0 va v (outG bd out l j) (W.alloc (.cells #[.int .i64 4, .string n, .int .i64 o, .slice A l.length c] 42)) w')) (fun _ i _ => l.length - (intOf i).toNat)
  case atStart => exact ⟨0, by omega, rfl, ⟨by rw [HZ.out]; exact T00.out⟩⟩
  case round =>
    obtain ⟨j, hj, rfl, HT⟩ := hrel
    have HS := Aside0.mk (HT.out.st ST0.out)
    have m3 : wr.cell? ⟨W.heap.size, 3, none⟩ = some (.slice A l.length c) := (blk_cell (GrTo.cell ST0.out HT.out BX0.out (by decide)) 3).trans rfl
    by_cases hlt : j < l.length
    · have hS := outG_succ bd out l j hlt
      obtain ⟨ad, A3, c3, hA, h0, h1, h2, h3, hc3, hC3⟩ := atn42 HR.out j hlt
      subst hA
      have HM := Aside0.mk (HX.out j hlt bd (outG bd out l j) u0 vb A3 c3)
      have b1 := HB1.out j hlt
      have b2 := HB2.out j hlt
      generalize rd_T42 l (j : Int) = x at *
      replace h0 := pw_cell_below HS.out.be h0
      replace h1 := pw_cell_below HS.out.be h1
      replace h2 := pw_cell_below HS.out.be h2
      replace h3 := pw_cell_below HS.out.be h3
      have q0 := eq_true (show (0 : Int) ≤ (j : Int) by omega)
      have q1 := eq_true (show (j : Int) < (l.length : Int) by omega)
      have q2 : IntKind.i64.wrap ((j : Int) + 1) = (j : Int) + 1 := IntWalk.i64_in _ (by omega)
      have HSU := Aside0.mk hS
      have HC3 := Aside0.mk hC3
      have Hc3 := Aside0.mk hc3
      have B1 := Aside0.mk b1
      have B2 := Aside0.mk b2
      have HLT := Aside0.mk hlt
      clear hS hC3 hc3 b1 b2 hj hll
      go_wp2_with (go_at_call 74; (with_reducible refine (HM.out _ HS.out HC3.out Hc3.out B1.out B2.out).mono ?_); rintro e w1 ⟨v1, rfl, g⟩; have T1 := Aside0.mk (GrTo.trans HT.out g); clear g)
      go_roundw
      case rel => exact ⟨j + 1, HLT.out, by go_num, ⟨by rw [HSU.out]; exact T1.out⟩⟩
      case measure => simp [intOf]; omega
    · have q1 := eq_false (show ¬ ((j : Int) < (l.length : Int)) by omega)
      have hj2 : j = l.length := by omega
      have HS2 : Aside0 (GrTo w0 va u0 post (W.alloc (.cells #[.int .i64 4, .string n, .int .i64 o, .slice A l.length c] 42)) wr) := ⟨by rw [show post = outG bd out l j from by rw [← HP.out, hj2]]; exact HT.out⟩
      clear hj2 hlt HS HT
      obtain ⟨A9, N9, c9, rfl⟩ := own_sl3 HS2.out.ro
      go_wp2
      go_ret
      exact ⟨_, rfl, GrTo.trans T0.out HS2.out⟩
set_option maxHeartbeats 4000000 in
set_option maxRecDepth 100000 in
theorem gwalk5 (w0 : World) (N : Nat) (bd out : List ByteArray) (n : ByteArray) (o : Int) (l : List S42) (va vb : Value) (A : Option Addr) (c : Nat) (W : World)
    (hs : GrSt w0 va vb bd out W) (hr : Kd.C k42 w0 A l.length l) (hll : l.length ≤ 1000000) (hx : ∀ j, j < l.length → GrC w0 N (rd_T42 l (j : Int)))
    (hb1 : ∀ j, j < l.length → bd.length + szT (rd_T42 l (j : Int)) ≤ N) (hb2 : ∀ j, j < l.length → (outG bd out l j).length + szT (rd_T42 l (j : Int)) ≤ N) (post : List ByteArray) (hp : outG bd out l l.length = post) :
    Calls Tryd.prog 74 #[va, .agg #[.int .i64 5, .string n, .int .i64 o, .slice A l.length c], vb] W (GrPost w0 va post W) := by
  have hu42 := Tryd.underlying42
  have ST0 := Aside0.mk (hs.alloc (.cells #[.int .i64 5, .string n, .int .i64 o, .slice A l.length c] 42))
  have T0 := Aside0.mk (GrTo.of_below hs (below_alloc (Below.refl _ W) (.cells #[.int .i64 5, .string n, .int .i64 o, .slice A l.length c] 42)))
  have T00 := Aside0.mk (GrTo.of_below ST0.out (Below.refl _ _))
  have BX0 : Aside0 ((W.alloc (.cells #[.int .i64 5, .string n, .int .i64 o, .slice A l.length c] 42)).heap[W.heap.size]? = some (.cells #[.int .i64 5, .string n, .int .i64 o, .slice A l.length c] 42 (0, 0))) := ⟨heap_alloc_new _ _⟩
  have HX := Aside0.mk hx
  have HB1 := Aside0.mk hb1
  have HB2 := Aside0.mk hb2
  have HP := Aside0.mk hp
  have HR := Aside0.mk hr
  have HLL := Aside0.mk hll
  have HZ := Aside0.mk (outG_zero bd out l)
  clear hs hr hx hb1 hb2 hp
  go_enter Tryd.func74, Tryd.ntmps74
  go_wp2_with fail
  go_loopw [0, 8] (fun v i w' => ∃ j : Nat, j ≤ l.length ∧ i = .int .i64 j ∧ Aside0 (GrTo w0 va v (outG bd out l j) (W.alloc (.cells #[.int .i64 5, .string n, .int .i64 o, .slice A l.length c] 42)) w')) (fun _ i _ => l.length - (intOf i).toNat)
  case atStart => exact ⟨0, by omega, rfl, ⟨by rw [HZ.out]; exact T00.out⟩⟩
  case round =>
    obtain ⟨j, hj, rfl, HT⟩ := hrel
    have HS := Aside0.mk (HT.out.st ST0.out)
    have m3 : wr.cell? ⟨W.heap.size, 3, none⟩ = some (.slice A l.length c) := (blk_cell (GrTo.cell ST0.out HT.out BX0.out (by decide)) 3).trans rfl
    by_cases hlt : j < l.length
    · have hS := outG_succ bd out l j hlt
      obtain ⟨ad, A3, c3, hA, h0, h1, h2, h3, hc3, hC3⟩ := atn42 HR.out j hlt
      subst hA
      have HM := Aside0.mk (HX.out j hlt bd (outG bd out l j) u0 vb A3 c3)
      have b1 := HB1.out j hlt
      have b2 := HB2.out j hlt
      generalize rd_T42 l (j : Int) = x at *
      replace h0 := pw_cell_below HS.out.be h0
      replace h1 := pw_cell_below HS.out.be h1
      replace h2 := pw_cell_below HS.out.be h2
      replace h3 := pw_cell_below HS.out.be h3
      have q0 := eq_true (show (0 : Int) ≤ (j : Int) by omega)
      have q1 := eq_true (show (j : Int) < (l.length : Int) by omega)
      have q2 : IntKind.i64.wrap ((j : Int) + 1) = (j : Int) + 1 := IntWalk.i64_in _ (by omega)
      have HSU := Aside0.mk hS
      have HC3 := Aside0.mk hC3
      have Hc3 := Aside0.mk hc3
      have B1 := Aside0.mk b1
      have B2 := Aside0.mk b2
      have HLT := Aside0.mk hlt
      clear hS hC3 hc3 b1 b2 hj hll
      go_wp2_with (go_at_call 74; (with_reducible refine (HM.out _ HS.out HC3.out Hc3.out B1.out B2.out).mono ?_); rintro e w1 ⟨v1, rfl, g⟩; have T1 := Aside0.mk (GrTo.trans HT.out g); clear g)
      go_roundw
      case rel => exact ⟨j + 1, HLT.out, by go_num, ⟨by rw [HSU.out]; exact T1.out⟩⟩
      case measure => simp [intOf]; omega
    · have q1 := eq_false (show ¬ ((j : Int) < (l.length : Int)) by omega)
      have hj2 : j = l.length := by omega
      have HS2 : Aside0 (GrTo w0 va u0 post (W.alloc (.cells #[.int .i64 5, .string n, .int .i64 o, .slice A l.length c] 42)) wr) := ⟨by rw [show post = outG bd out l j from by rw [← HP.out, hj2]]; exact HT.out⟩
      clear hj2 hlt HS HT
      obtain ⟨A9, N9, c9, rfl⟩ := own_sl3 HS2.out.ro
      go_wp2
      go_ret
      exact ⟨_, rfl, GrTo.trans T0.out HS2.out⟩
set_option maxHeartbeats 4000000 in
set_option maxRecDepth 100000 in
theorem gwalk6 (w0 : World) (N : Nat) (bd out : List ByteArray) (n : ByteArray) (o : Int) (l : List S42) (va vb : Value) (A : Option Addr) (c : Nat) (W : World)
    (hs : GrSt w0 va vb bd out W) (hr : Kd.C k42 w0 A l.length l) (hll : l.length ≤ 1000000) (hx : ∀ j, j < l.length → GrC w0 N (rd_T42 l (j : Int)))
    (hb1 : ∀ j, j < l.length → bd.length + szT (rd_T42 l (j : Int)) ≤ N) (hb2 : ∀ j, j < l.length → (outG bd out l j).length + szT (rd_T42 l (j : Int)) ≤ N) (post : List ByteArray) (hp : outG bd out l l.length = post) :
    Calls Tryd.prog 74 #[va, .agg #[.int .i64 6, .string n, .int .i64 o, .slice A l.length c], vb] W (GrPost w0 va post W) := by
  have hu42 := Tryd.underlying42
  have ST0 := Aside0.mk (hs.alloc (.cells #[.int .i64 6, .string n, .int .i64 o, .slice A l.length c] 42))
  have T0 := Aside0.mk (GrTo.of_below hs (below_alloc (Below.refl _ W) (.cells #[.int .i64 6, .string n, .int .i64 o, .slice A l.length c] 42)))
  have T00 := Aside0.mk (GrTo.of_below ST0.out (Below.refl _ _))
  have BX0 : Aside0 ((W.alloc (.cells #[.int .i64 6, .string n, .int .i64 o, .slice A l.length c] 42)).heap[W.heap.size]? = some (.cells #[.int .i64 6, .string n, .int .i64 o, .slice A l.length c] 42 (0, 0))) := ⟨heap_alloc_new _ _⟩
  have HX := Aside0.mk hx
  have HB1 := Aside0.mk hb1
  have HB2 := Aside0.mk hb2
  have HP := Aside0.mk hp
  have HR := Aside0.mk hr
  have HLL := Aside0.mk hll
  have HZ := Aside0.mk (outG_zero bd out l)
  clear hs hr hx hb1 hb2 hp
  go_enter Tryd.func74, Tryd.ntmps74
  go_wp2_with fail
  go_loopw [0, 8] (fun v i w' => ∃ j : Nat, j ≤ l.length ∧ i = .int .i64 j ∧ Aside0 (GrTo w0 va v (outG bd out l j) (W.alloc (.cells #[.int .i64 6, .string n, .int .i64 o, .slice A l.length c] 42)) w')) (fun _ i _ => l.length - (intOf i).toNat)
  case atStart => exact ⟨0, by omega, rfl, ⟨by rw [HZ.out]; exact T00.out⟩⟩
  case round =>
    obtain ⟨j, hj, rfl, HT⟩ := hrel
    have HS := Aside0.mk (HT.out.st ST0.out)
    have m3 : wr.cell? ⟨W.heap.size, 3, none⟩ = some (.slice A l.length c) := (blk_cell (GrTo.cell ST0.out HT.out BX0.out (by decide)) 3).trans rfl
    by_cases hlt : j < l.length
    · have hS := outG_succ bd out l j hlt
      obtain ⟨ad, A3, c3, hA, h0, h1, h2, h3, hc3, hC3⟩ := atn42 HR.out j hlt
      subst hA
      have HM := Aside0.mk (HX.out j hlt bd (outG bd out l j) u0 vb A3 c3)
      have b1 := HB1.out j hlt
      have b2 := HB2.out j hlt
      generalize rd_T42 l (j : Int) = x at *
      replace h0 := pw_cell_below HS.out.be h0
      replace h1 := pw_cell_below HS.out.be h1
      replace h2 := pw_cell_below HS.out.be h2
      replace h3 := pw_cell_below HS.out.be h3
      have q0 := eq_true (show (0 : Int) ≤ (j : Int) by omega)
      have q1 := eq_true (show (j : Int) < (l.length : Int) by omega)
      have q2 : IntKind.i64.wrap ((j : Int) + 1) = (j : Int) + 1 := IntWalk.i64_in _ (by omega)
      have HSU := Aside0.mk hS
      have HC3 := Aside0.mk hC3
      have Hc3 := Aside0.mk hc3
      have B1 := Aside0.mk b1
      have B2 := Aside0.mk b2
      have HLT := Aside0.mk hlt
      clear hS hC3 hc3 b1 b2 hj hll
      go_wp2_with (go_at_call 74; (with_reducible refine (HM.out _ HS.out HC3.out Hc3.out B1.out B2.out).mono ?_); rintro e w1 ⟨v1, rfl, g⟩; have T1 := Aside0.mk (GrTo.trans HT.out g); clear g)
      go_roundw
      case rel => exact ⟨j + 1, HLT.out, by go_num, ⟨by rw [HSU.out]; exact T1.out⟩⟩
      case measure => simp [intOf]; omega
    · have q1 := eq_false (show ¬ ((j : Int) < (l.length : Int)) by omega)
      have hj2 : j = l.length := by omega
      have HS2 : Aside0 (GrTo w0 va u0 post (W.alloc (.cells #[.int .i64 6, .string n, .int .i64 o, .slice A l.length c] 42)) wr) := ⟨by rw [show post = outG bd out l j from by rw [← HP.out, hj2]]; exact HT.out⟩
      clear hj2 hlt HS HT
      obtain ⟨A9, N9, c9, rfl⟩ := own_sl3 HS2.out.ro
      go_wp2
      go_ret
      exact ⟨_, rfl, GrTo.trans T0.out HS2.out⟩
set_option maxHeartbeats 4000000 in
set_option maxRecDepth 100000 in
theorem gwalk9 (w0 : World) (N : Nat) (bd out : List ByteArray) (n : ByteArray) (o : Int) (l : List S42) (va vb : Value) (A : Option Addr) (c : Nat) (W : World)
    (hs : GrSt w0 va vb bd out W) (hr : Kd.C k42 w0 A l.length l) (hll : l.length ≤ 1000000) (hx : ∀ j, j < l.length → GrC w0 N (rd_T42 l (j : Int)))
    (hb1 : ∀ j, j < l.length → bd.length + szT (rd_T42 l (j : Int)) ≤ N) (hb2 : ∀ j, j < l.length → (outG bd out l j).length + szT (rd_T42 l (j : Int)) ≤ N) (post : List ByteArray) (hp : outG bd out l l.length = post) :
    Calls Tryd.prog 74 #[va, .agg #[.int .i64 9, .string n, .int .i64 o, .slice A l.length c], vb] W (GrPost w0 va post W) := by
  have hu42 := Tryd.underlying42
  have ST0 := Aside0.mk (hs.alloc (.cells #[.int .i64 9, .string n, .int .i64 o, .slice A l.length c] 42))
  have T0 := Aside0.mk (GrTo.of_below hs (below_alloc (Below.refl _ W) (.cells #[.int .i64 9, .string n, .int .i64 o, .slice A l.length c] 42)))
  have T00 := Aside0.mk (GrTo.of_below ST0.out (Below.refl _ _))
  have BX0 : Aside0 ((W.alloc (.cells #[.int .i64 9, .string n, .int .i64 o, .slice A l.length c] 42)).heap[W.heap.size]? = some (.cells #[.int .i64 9, .string n, .int .i64 o, .slice A l.length c] 42 (0, 0))) := ⟨heap_alloc_new _ _⟩
  have HX := Aside0.mk hx
  have HB1 := Aside0.mk hb1
  have HB2 := Aside0.mk hb2
  have HP := Aside0.mk hp
  have HR := Aside0.mk hr
  have HLL := Aside0.mk hll
  have HZ := Aside0.mk (outG_zero bd out l)
  clear hs hr hx hb1 hb2 hp
  go_enter Tryd.func74, Tryd.ntmps74
  go_wp2_with fail
  go_loopw [0, 8] (fun v i w' => ∃ j : Nat, j ≤ l.length ∧ i = .int .i64 j ∧ Aside0 (GrTo w0 va v (outG bd out l j) (W.alloc (.cells #[.int .i64 9, .string n, .int .i64 o, .slice A l.length c] 42)) w')) (fun _ i _ => l.length - (intOf i).toNat)
  case atStart => exact ⟨0, by omega, rfl, ⟨by rw [HZ.out]; exact T00.out⟩⟩
  case round =>
    obtain ⟨j, hj, rfl, HT⟩ := hrel
    have HS := Aside0.mk (HT.out.st ST0.out)
    have m3 : wr.cell? ⟨W.heap.size, 3, none⟩ = some (.slice A l.length c) := (blk_cell (GrTo.cell ST0.out HT.out BX0.out (by decide)) 3).trans rfl
    by_cases hlt : j < l.length
    · have hS := outG_succ bd out l j hlt
      obtain ⟨ad, A3, c3, hA, h0, h1, h2, h3, hc3, hC3⟩ := atn42 HR.out j hlt
      subst hA
      have HM := Aside0.mk (HX.out j hlt bd (outG bd out l j) u0 vb A3 c3)
      have b1 := HB1.out j hlt
      have b2 := HB2.out j hlt
      generalize rd_T42 l (j : Int) = x at *
      replace h0 := pw_cell_below HS.out.be h0
      replace h1 := pw_cell_below HS.out.be h1
      replace h2 := pw_cell_below HS.out.be h2
      replace h3 := pw_cell_below HS.out.be h3
      have q0 := eq_true (show (0 : Int) ≤ (j : Int) by omega)
      have q1 := eq_true (show (j : Int) < (l.length : Int) by omega)
      have q2 : IntKind.i64.wrap ((j : Int) + 1) = (j : Int) + 1 := IntWalk.i64_in _ (by omega)
      have HSU := Aside0.mk hS
      have HC3 := Aside0.mk hC3
      have Hc3 := Aside0.mk hc3
      have B1 := Aside0.mk b1
      have B2 := Aside0.mk b2
      have HLT := Aside0.mk hlt
      clear hS hC3 hc3 b1 b2 hj hll
      go_wp2_with (go_at_call 74; (with_reducible refine (HM.out _ HS.out HC3.out Hc3.out B1.out B2.out).mono ?_); rintro e w1 ⟨v1, rfl, g⟩; have T1 := Aside0.mk (GrTo.trans HT.out g); clear g)
      go_roundw
      case rel => exact ⟨j + 1, HLT.out, by go_num, ⟨by rw [HSU.out]; exact T1.out⟩⟩
      case measure => simp [intOf]; omega
    · have q1 := eq_false (show ¬ ((j : Int) < (l.length : Int)) by omega)
      have hj2 : j = l.length := by omega
      have HS2 : Aside0 (GrTo w0 va u0 post (W.alloc (.cells #[.int .i64 9, .string n, .int .i64 o, .slice A l.length c] 42)) wr) := ⟨by rw [show post = outG bd out l j from by rw [← HP.out, hj2]]; exact HT.out⟩
      clear hj2 hlt HS HT
      obtain ⟨A9, N9, c9, rfl⟩ := own_sl3 HS2.out.ro
      go_wp2
      go_ret
      exact ⟨_, rfl, GrTo.trans T0.out HS2.out⟩
end
end Go.Proofs.YtajefkjcfmfjkaaDoor
namespace Go.Proofs.YtajefkjcfmfjkaaDoor
section
set_option linter.unusedVariables false
set_option linter.unusedSimpArgs false
set_option linter.deprecated false
open Go.RowKit Go.Proofs.YtajefkjcfmfjkaaDoorW.PrintWords Go.Proofs.YtajefkjcfmfjkaaDoor.PRawForms
set_option linter.unusedVariables false
theorem SameB.refl (b : List ByteArray) : SameB b b := fun _ _ => rfl
theorem grT_fr (t : S42) (h : fmT t = true) (b out : List ByteArray) : grT t b out = frT t b out := gr_fr (szT t) t (Nat.le_refl _) h b b out (SameB.refl b)
theorem outG_J (bd out : List ByteArray) (l : List S42) (hf : ∀ x ∈ l, fmT x = true) (j : Nat) (hj : j ≤ l.length) : outG bd out l j = outJ bd out l j := by
  induction j with
  | zero => rw [outG_zero, outJ_zero]
  | succ j ih => rw [outG_succ _ _ _ _ hj, outJ_succ _ _ _ _ hj, ih (by omega), grT_fr _ (hf _ (rdT_mem hj))]
theorem us_list (n : ByteArray) : (!n.toList == [95]) = !(eqB n ⟨#[95]⟩) := by
  rw [ByteArray.toList_eq]
  unfold eqB
  by_cases h : n.data.toList = [95] <;> simp [h]
theorem gwalk_any (w0 : World) (N : Nat) (hN : N ≤ 10000000) (i : Nat) :
    ∀ t : S42, szT t ≤ i → fmT t = true → nmT t = true → szT t ≤ 1000000 → GrC w0 N t := by
  induction i with
  | zero => intro t h; have := szT_pos t; omega
  | succ i ih =>
    intro t hsz hf hn hM bd out va vb A c W hs hr hc hb1 hb2
    rw [szT_eq] at hsz hb1 hb2 hM
    rw [fmT_eq, Bool.and_eq_true] at hf
    rw [nmT_eq, Bool.and_eq_true, decide_eq_true_eq] at hn
    obtain ⟨hf1, hf2⟩ := hf
    obtain ⟨hn1, hn2⟩ := hn
    rw [fmL_all] at hf2
    have hff : ∀ x ∈ t.f3, fmT x = true := fun x hx => List.all_eq_true.1 hf2 x hx
    have hx : ∀ x ∈ t.f3, GrC w0 N x := by
      intro x hx
      rw [nmL_all] at hn2
      have := szL_mem hx
      exact ih x (by omega) (hff x hx) (List.all_eq_true.1 hn2 x hx) (by omega)
    have hlen := form_len _ _ _ hf1
    have hll := szL_len t.f3
    have hxj : ∀ j, j < t.f3.length → GrC w0 N (rd_T42 t.f3 (j : Int)) := fun j hj => hx _ (rdT_mem hj)
    have hj1 : ∀ j, j < t.f3.length → bd.length + szT (rd_T42 t.f3 (j : Int)) ≤ N := fun j hj => by have := szL_mem (rdT_mem hj); omega
    have hj2 : ∀ j, j < t.f3.length → (outG bd out t.f3 j).length + szT (rd_T42 t.f3 (j : Int)) ≤ N := fun j hj => by rw [outG_J bd out t.f3 hff j (by omega)]; have := outJ_len t.f3 bd out j hj; omega
    have hpost := outG_all bd out t.f3
    have hbd : bd.length ≤ 100000000 := by omega
    have ho : out.length ≤ 100000000 := by omega
    have hl6 : t.f3.length ≤ 1000000 := by omega
    rw [grT_eq]
    clear ih hf1 hf2 hn2
    obtain ⟨k, n, o, args⟩ := t
    simp only at *
    rcases hlen with (rfl | rfl | rfl | rfl) | ⟨rfl | rfl | rfl, hm⟩ | ⟨hk, hm⟩
    · unfold nodeG
      rw [if_pos (.inl rfl)]
      cases hi : inQ out n with
      | true => exact gleaf1in w0 bd out n o va vb A _ c W hs hn1 ho hbd hi
      | false =>
        cases hi2 : inQ bd n with
        | true => exact gleaf1bd w0 bd out n o va vb A _ c W hs hn1 ho hbd hi hi2
        | false => exact gleaf1no w0 bd out n o va vb A _ c W hs hn1 ho hbd hi hi2
    · unfold nodeG
      rw [if_pos (.inr rfl)]
      cases hi : inQ out n with
      | true => exact gleaf2in w0 bd out n o va vb A _ c W hs hn1 ho hbd hi
      | false => exact gleaf2no w0 bd out n o va vb A _ c W hs hn1 ho hbd hi
    · exact gwalk3 w0 N bd out n o args va vb A c W hs hr hl6 hxj hj1 hj2 _ hpost
    · exact gwalk4 w0 N bd out n o args va vb A c W hs hr hl6 hxj hj1 hj2 _ hpost
    · exact gwalk5 w0 N bd out n o args va vb A c W hs hr hl6 hxj hj1 hj2 _ hpost
    · exact gwalk6 w0 N bd out n o args va vb A c W hs hr hl6 hxj hj1 hj2 _ hpost
    · exact gwalk9 w0 N bd out n o args va vb A c W hs hr hl6 hxj hj1 hj2 _ hpost
    · have e : nodeG k n (grL args) bd out = bindF (fun b => if eqB n ⟨#[95]⟩ then b else b ++ [n]) (grL args) bd out := by
        unfold nodeG; rw [if_neg (by omega), if_pos hk]
      rw [e]
      have hu := us_list n
      have hbl : (if eqB n ⟨#[95]⟩ = true then bd else bd ++ [n]).length ≤ bd.length + 1 := by split <;> simp
      rcases hm with hm | hm
      · match args, hm, hr, hx, hb1, hb2, hc with
        | [y], _, hr, hx, hb1, hb2, hc =>
          rw [szL, szL] at hb1 hb2
          have hy := hx y (by simp)
          unfold bindF
          simp only [grL, List.length_cons, List.length_nil, List.getD_cons_zero, Nat.zero_add, Nat.sub_self, Nat.reduceEqDiff, if_false]
          cases he : eqB n ⟨#[95]⟩ with
          | true =>
            rw [he] at hu hbl
            rcases hk with rfl | rfl
            · exact gbind71u w0 N bd out n o y va vb A c W hs hr hy (by omega) (by omega) hbd hu
            · exact gbind81u w0 N bd out n o y va vb A c W hs hr hy (by omega) (by omega) hbd hu
          | false =>
            rw [he] at hu hbl
            rcases hk with rfl | rfl
            · exact gbind71n w0 N bd out n o y va vb A c W hs hr hy (by simp; omega) (by omega) hbd hu
            · exact gbind81n w0 N bd out n o y va vb A c W hs hr hy (by simp; omega) (by omega) hbd hu
      · match args, hm, hr, hx, hb1, hb2, hc, hff with
        | [x, y], _, hr, hx, hb1, hb2, hc, hff =>
          rw [szL, szL, szL] at hb1 hb2
          have hX := hx x (by simp)
          have hy := hx y (by simp)
          have hlx := frT_len (szT x) x (Nat.le_refl _) bd out
          rw [← grT_fr x (hff x (by simp))] at hlx
          have hpy := szT_pos x
          unfold bindF
          simp only [grL, List.length_cons, List.length_nil, List.getD_cons_zero, List.getD_cons_succ, Nat.zero_add, Nat.reduceAdd, Nat.reduceSub, if_true]
          cases he : eqB n ⟨#[95]⟩ with
          | true =>
            rw [he] at hu hbl
            rcases hk with rfl | rfl
            · exact gbind72u w0 N bd out n o x y va vb A c W hs hr hX (by omega) (by omega) hy (by omega) (by omega) hbd hu
            · exact gbind82u w0 N bd out n o x y va vb A c W hs hr hX (by omega) (by omega) hy (by omega) (by omega) hbd hu
          | false =>
            rw [he] at hu hbl
            rcases hk with rfl | rfl
            · exact gbind72n w0 N bd out n o x y va vb A c W hs hr hX (by omega) (by omega) hy (by simp; omega) (by omega) hbd hu
            · exact gbind82n w0 N bd out n o x y va vb A c W hs hr hX (by omega) (by omega) hy (by simp; omega) (by omega) hbd hu
theorem GrSt.nil (w W : World) (h : Below w.heap.size w W) : GrSt w (.slice none 0 0) (.slice none 0 0) [] [] W :=
  ⟨h, ⟨rfl, .inl ⟨rfl, rfl⟩⟩, ⟨rfl, .inl ⟨rfl, rfl⟩⟩, fun k h => by cases h⟩
set_option maxHeartbeats 4000000 in
set_option maxRecDepth 100000 in
theorem rfree_any (t : S42) (A : Option Addr) (c : Nat) (w : World) (hsz : szT t ≤ 1000000) (hnm : nmT t = true) (hr : Kd.C k42 w A t.f3.length t.f3) (hc : t.f3.length ≤ c) :
    Calls Tryd.prog 39 #[.agg #[.int .i64 t.f0, .string t.f1, .int .i64 t.f2, .slice A t.f3.length c]] w fun e w' => ∃ A2 c2, e = .returned (.slice A2 (freeT t).length c2) ∧ Kd.C Kd.string w' A2 (freeT t).length (freeT t) ∧ Below w.heap.size w w' := by
  have HW : Aside0 (∀ W : World, Below w.heap.size w W → Calls Tryd.prog 30 #[.agg #[.int .i64 t.f0, .string t.f1, .int .i64 t.f2, .slice A t.f3.length c]] W fun e w' => e = .returned (.int .i64 (wfS t)) ∧ Below W.heap.size W w') :=
    ⟨fun W hW => rwf_any t A c W (by omega) (Kd.C_below hr hW) hc⟩
  have hu42 := Tryd.underlying42
  by_cases hw : wfS t = 0
  · have hf : fmT t = true := by
      unfold wfS at hw
      cases hf : fmT t with
      | true => rfl
      | false => rw [hf] at hw; simp at hw
    have hF : freeT t = grT t [] [] := (if_pos hw).trans (grT_fr t hf [] []).symm
    have HX : Aside0 (∀ (W : World), Below w.heap.size w W → Calls Tryd.prog 74 #[.slice none 0 0, .agg #[.int .i64 t.f0, .string t.f1, .int .i64 t.f2, .slice A t.f3.length c], .slice none 0 0] W (GrPost w (.slice none 0 0) (grT t [] []) W)) :=
      ⟨fun W h => gwalk_any w 10000000 (by omega) 1000000 t hsz hf hnm hsz [] [] _ _ A c W (GrSt.nil w W h) hr hc (by simp; omega) (by simp; omega)⟩
    rw [hw] at HW
    rw [hF]
    generalize grT t [] [] = R at *
    clear hF hf hw hr hc hnm hsz
    go_enter Tryd.func39, Tryd.ntmps39
    go_wp2_with (first | (go_at_call 30; (with_reducible refine (HW.out _ ?b1).mono ?_); (case b1 => exact (by repeat (first | (with_reducible first | exact Below.refl _ _ | apply below_alloc | apply pw_below_drewN | apply below_drew1 | refine below_set ?_ (Nat.le_refl _)) | assumption))); rintro e w1 ⟨rfl, hb⟩; have HB : Aside0 (Below w.heap.size w w1) := ⟨below_step (by repeat (first | (with_reducible first | exact Below.refl _ _ | apply below_alloc | apply pw_below_drewN | apply below_drew1 | refine below_set ?_ (Nat.le_refl _)) | assumption)) hb⟩; have m0 := pw_cell_below hb (a := ⟨w.heap.size, 0, none⟩) (v := .int .i64 t.f0) (by go_simp); have m1 := pw_cell_below hb (a := ⟨w.heap.size, 1, none⟩) (v := .string t.f1) (by go_simp); have m2 := pw_cell_below hb (a := ⟨w.heap.size, 2, none⟩) (v := .int .i64 t.f2) (by go_simp); have m3 := pw_cell_below hb (a := ⟨w.heap.size, 3, none⟩) (v := .slice A t.f3.length c) (by go_simp); clear hb) | (go_at_call 74; (with_reducible refine (HX.out _ ?b2).mono ?_); (case b2 => exact HB.out); rintro e w2 ⟨v2, rfl, r2⟩; have HB2 := Aside0.mk r2.be; obtain ⟨A2, c2, rfl, hrd⟩ := own_reads_of (enc := Value.string) (d := ByteArray.empty) r2.ro; have HC : Aside0 (Kd.C Kd.string w2 A2 R.length R) := ⟨Kd.C_of_reads hrd⟩; clear r2 hrd))
    go_ret
    exact ⟨A2, c2, rfl, HC.out, HB2.out⟩
  · have hF : freeT t = [] := if_neg hw
    rw [hF]
    have hne : ((wfS t) != 0) = true := by rw [bne_iff_ne]; exact hw
    clear hF hw hr hc hnm hsz
    go_enter Tryd.func39, Tryd.ntmps39
    go_wp2_with (go_at_call 30; (with_reducible refine (HW.out _ ?b1).mono ?_); (case b1 => exact (by repeat (first | (with_reducible first | exact Below.refl _ _ | apply below_alloc | apply pw_below_drewN | apply below_drew1 | refine below_set ?_ (Nat.le_refl _)) | assumption))); rintro e w1 ⟨rfl, hb⟩; have HB : Aside0 (Below w.heap.size w w1) := ⟨below_step (by repeat (first | (with_reducible first | exact Below.refl _ _ | apply below_alloc | apply pw_below_drewN | apply below_drew1 | refine below_set ?_ (Nat.le_refl _)) | assumption)) hb⟩; clear hb)
    go_ret
    exact ⟨none, 0, rfl, Kd.C_nil _ _, HB.out⟩
end
end Go.Proofs.YtajefkjcfmfjkaaDoor
namespace Go.Proofs.YtajefkjcfmfjkaaDoor
section
set_option linter.unusedVariables false
set_option linter.unusedSimpArgs false
set_option linter.deprecated false
open Go.RowKit Go.Proofs.YtajefkjcfmfjkaaDoorW.PrintWords Go.Proofs.YtajefkjcfmfjkaaDoor.PRawForms
set_option linter.unusedVariables false
theorem add_nat42 (b i : Nat) : (⟨b, 0, none⟩ : Addr).add i = ⟨b, i, none⟩ := by simp [Addr.add]; exact fun h => h.symm
/-- a row of one tree, and of two, as a block holds them -/
theorem k42_C1 {w : World} {B : Nat} {x : S42} {A : Option Addr} {c : Nat} (hb : w.heap[B]? = some (.cells #[.int .i64 x.f0, .string x.f1, .int .i64 x.f2, .slice A x.f3.length c] 42 (0, 0))) (hc : x.f3.length ≤ c) (hC : Kd.C k42 w A x.f3.length x.f3) :
    Kd.C k42 w (some ⟨B, 0, none⟩) 1 [x] := by
  refine ⟨rfl, by omega, fun _ => ⟨_, rfl, fun j p hj => ?_⟩⟩
  match j, hj with
  | 0, hj =>
    obtain rfl : x = p := by simpa using hj
    refine ⟨_, rfl, k42_mk w x hc hC, fun i u hu => ?_⟩
    have e : (⟨B, 0, none⟩ : Addr).add (0 * k42.sz + i) = ⟨B, i, none⟩ := by rw [Nat.zero_mul, Nat.zero_add, add_nat42]
    rw [e, blk_cell hb i]
    match i, hu with
    | 0, hu => exact hu
    | 1, hu => exact hu
    | 2, hu => exact hu
    | 3, hu => exact hu
theorem k42_C2 {w : World} {B : Nat} {x y : S42} {A A' : Option Addr} {c c' : Nat} (hb : w.heap[B]? = some (.cells #[.int .i64 x.f0, .string x.f1, .int .i64 x.f2, .slice A x.f3.length c, .int .i64 y.f0, .string y.f1, .int .i64 y.f2, .slice A' y.f3.length c'] 42 (0, 0))) (hc : x.f3.length ≤ c) (hC : Kd.C k42 w A x.f3.length x.f3) (hc' : y.f3.length ≤ c') (hC' : Kd.C k42 w A' y.f3.length y.f3) :
    Kd.C k42 w (some ⟨B, 0, none⟩) 2 [x, y] := by
  refine ⟨rfl, by omega, fun _ => ⟨_, rfl, fun j p hj => ?_⟩⟩
  match j, hj with
  | 0, hj =>
    obtain rfl : x = p := by simpa using hj
    refine ⟨_, rfl, k42_mk w x hc hC, fun i u hu => ?_⟩
    have e : (⟨B, 0, none⟩ : Addr).add (0 * k42.sz + i) = ⟨B, i, none⟩ := by rw [Nat.zero_mul, Nat.zero_add, add_nat42]
    rw [e, blk_cell hb i]
    match i, hu with
    | 0, hu => exact hu
    | 1, hu => exact hu
    | 2, hu => exact hu
    | 3, hu => exact hu
  | 1, hj =>
    obtain rfl : y = p := by simpa using hj
    refine ⟨_, rfl, k42_mk w y hc' hC', fun i u hu => ?_⟩
    have e : (⟨B, 0, none⟩ : Addr).add (1 * k42.sz + i) = ⟨B, 4 + i, none⟩ := by rw [add_nat42]; rfl
    rw [e, blk_cell hb (4 + i)]
    match i, hu with
    | 0, hu => exact hu
    | 1, hu => exact hu
    | 2, hu => exact hu
    | 3, hu => exact hu
set_option maxHeartbeats 4000000 in
set_option maxRecDepth 100000 in
theorem samen_any (l : List ByteArray) (A B : Option Addr) (c d : Nat) (w : World) (hl : l.length ≤ 1000000000) (ha : Kd.C Kd.string w A l.length l) (hb : Kd.C Kd.string w B l.length l) :
    Calls Tryd.prog 37 #[.slice A l.length c, .slice B l.length d] w fun e w' => e = .returned (.bool true) ∧ Below w.heap.size w w' := by
  have HA := Aside0.mk ha
  have HBB := Aside0.mk hb
  have HLL := Aside0.mk hl
  clear ha hb
  go_enter Tryd.func37, Tryd.ntmps37
  go_wp2_with fail
  go_loopw [5] (fun i w' => ∃ j : Nat, j ≤ l.length ∧ i = .int .i64 j ∧ Aside0 (Below w.heap.size w w')) (fun i _ => l.length - (intOf i).toNat)
  case atStart => exact ⟨0, by omega, rfl, ⟨(by repeat (first | (with_reducible first | exact Below.refl _ _ | apply below_alloc | apply pw_below_drewN | apply below_drew1 | refine below_set ?_ (Nat.le_refl _)) | assumption))⟩⟩
  case round =>
    obtain ⟨j, hj, rfl, HB⟩ := hrel
    by_cases hlt : j < l.length
    · obtain ⟨a1, h1, c1⟩ := Kd.at_string (Kd.C_below HA.out HB.out) (j : Int) (by omega) (by omega)
      obtain ⟨a2, h2, c2⟩ := Kd.at_string (Kd.C_below HBB.out HB.out) (j : Int) (by omega) (by omega)
      subst h1
      subst h2
      rw [Int.toNat_natCast] at c1 c2
      generalize rdOf ByteArray.empty l (j : Int) = x at c1 c2
      have q0 := eq_true (show (0 : Int) ≤ (j : Int) by omega)
      have q1 := eq_true (show (j : Int) < (l.length : Int) by omega)
      have q2 : IntKind.i64.wrap ((j : Int) + 1) = (j : Int) + 1 := IntWalk.i64_in _ (by omega)
      have HLT := Aside0.mk hlt
      clear hj hl hlt
      go_wp2_with fail
      go_quiet (fail)
      go_wp2_with fail
      go_roundw
      case rel =>
        have h0 := HB.out
        exact ⟨j + 1, HLT.out, by go_num, ⟨(by repeat (first | (with_reducible first | exact Below.refl _ _ | apply below_alloc | apply pw_below_drewN | apply below_drew1 | refine below_set ?_ (Nat.le_refl _)) | assumption))⟩⟩
      case measure => have h0 := HLT.out; simp [intOf]; omega
    · have q1 := eq_false (show ¬ ((j : Int) < (l.length : Int)) by omega)
      clear hlt hj
      go_wp2
      go_ret
      exact ⟨rfl, HB.out⟩
end
end Go.Proofs.YtajefkjcfmfjkaaDoor
namespace Go.Proofs.YtajefkjcfmfjkaaDoor
section
set_option linter.unusedVariables false
set_option linter.unusedSimpArgs false
set_option linter.deprecated false
open Go.RowKit Go.Proofs.YtajefkjcfmfjkaaDoorW.PrintWords Go.Proofs.YtajefkjcfmfjkaaDoor.PRawForms
set_option linter.unusedVariables false
def tS : S42 := ⟨1, ⟨#[115]⟩, 0, []⟩
def tZ : S42 := ⟨1, ⟨#[122]⟩, 0, []⟩
def tA : S42 := ⟨5, ⟨#[]⟩, 0, [tS, tZ]⟩
def t0 : S42 := ⟨0, ⟨#[]⟩, 0, []⟩
theorem tA_fmt : fmtS [] tA = [40, 115, 32, 122, 41] := by decide +kernel
theorem tA_wf : wfS tA = 0 := by decide +kernel
theorem t0_wf : wfS t0 = 1 := by decide +kernel
theorem tA_sz : szT tA = 3 := by decide +kernel
theorem tA_dp : dpT tA = 2 := by decide +kernel
theorem tA_nm : nmT tA = true := by decide +kernel
theorem t0_nm : nmT t0 = true := by decide +kernel
theorem tA_free : (freeT tA).length = 2 := by decide +kernel
theorem tA_sm : smT false tA tA = true := by decide +kernel
theorem tS_sm : smT false tS tZ = false := by decide +kernel
theorem t0_sz : szT t0 = 1 := by decide +kernel
theorem tS_sz : szT tS = 1 := by decide +kernel
theorem tZ_sz : szT tZ = 1 := by decide +kernel
set_option maxHeartbeats 4000000 in
set_option maxRecDepth 100000 in
theorem awake_any (w : World) :
    Calls Tryd.prog 40 #[] w fun e w' => e = .returned (.bool true) ∧ Below w.heap.size w w' := by
  have hu42 := Tryd.underlying42
  have BX1 : Aside0 (((((w.alloc (.cells #[.int .i64 1, .string ⟨#[115]⟩, .int .i64 0, .slice none 0 0] 42)).alloc (.cells #[.int .i64 1, .string ⟨#[122]⟩, .int .i64 0, .slice none 0 0] 42)).alloc (.cells #[.int .i64 1, .string ⟨#[115]⟩, .int .i64 0, .slice none 0 0, .int .i64 1, .string ⟨#[122]⟩, .int .i64 0, .slice none 0 0] 42)).alloc (.cells #[.int .i64 5, .string ⟨#[]⟩, .int .i64 0, .slice (some ⟨w.heap.size + 1 + 1, 0, none⟩) 2 2] 42)).heap[w.heap.size]? = some (.cells #[.int .i64 1, .string ⟨#[115]⟩, .int .i64 0, .slice none 0 0] 42 (0, 0))) := ⟨alloc4_0 _ _ _ _ _⟩
  have BX2 : Aside0 (((((w.alloc (.cells #[.int .i64 1, .string ⟨#[115]⟩, .int .i64 0, .slice none 0 0] 42)).alloc (.cells #[.int .i64 1, .string ⟨#[122]⟩, .int .i64 0, .slice none 0 0] 42)).alloc (.cells #[.int .i64 1, .string ⟨#[115]⟩, .int .i64 0, .slice none 0 0, .int .i64 1, .string ⟨#[122]⟩, .int .i64 0, .slice none 0 0] 42)).alloc (.cells #[.int .i64 5, .string ⟨#[]⟩, .int .i64 0, .slice (some ⟨w.heap.size + 1 + 1, 0, none⟩) 2 2] 42)).heap[w.heap.size + 1]? = some (.cells #[.int .i64 1, .string ⟨#[122]⟩, .int .i64 0, .slice none 0 0] 42 (0, 0))) := ⟨alloc4_1 _ _ _ _ _⟩
  have BXR : Aside0 (((((w.alloc (.cells #[.int .i64 1, .string ⟨#[115]⟩, .int .i64 0, .slice none 0 0] 42)).alloc (.cells #[.int .i64 1, .string ⟨#[122]⟩, .int .i64 0, .slice none 0 0] 42)).alloc (.cells #[.int .i64 1, .string ⟨#[115]⟩, .int .i64 0, .slice none 0 0, .int .i64 1, .string ⟨#[122]⟩, .int .i64 0, .slice none 0 0] 42)).alloc (.cells #[.int .i64 5, .string ⟨#[]⟩, .int .i64 0, .slice (some ⟨w.heap.size + 1 + 1, 0, none⟩) 2 2] 42)).heap[w.heap.size + 1 + 1]? = some (.cells #[.int .i64 1, .string ⟨#[115]⟩, .int .i64 0, .slice none 0 0, .int .i64 1, .string ⟨#[122]⟩, .int .i64 0, .slice none 0 0] 42 (0, 0))) := ⟨alloc4_2 _ _ _ _ _⟩
  have BX3 : Aside0 (((((w.alloc (.cells #[.int .i64 1, .string ⟨#[115]⟩, .int .i64 0, .slice none 0 0] 42)).alloc (.cells #[.int .i64 1, .string ⟨#[122]⟩, .int .i64 0, .slice none 0 0] 42)).alloc (.cells #[.int .i64 1, .string ⟨#[115]⟩, .int .i64 0, .slice none 0 0, .int .i64 1, .string ⟨#[122]⟩, .int .i64 0, .slice none 0 0] 42)).alloc (.cells #[.int .i64 5, .string ⟨#[]⟩, .int .i64 0, .slice (some ⟨w.heap.size + 1 + 1, 0, none⟩) 2 2] 42)).heap[w.heap.size + 1 + 1 + 1]? = some (.cells #[.int .i64 5, .string ⟨#[]⟩, .int .i64 0, .slice (some ⟨w.heap.size + 1 + 1, 0, none⟩) 2 2] 42 (0, 0))) := ⟨alloc4_3 _ _ _ _ _⟩
  have HBW : Aside0 (Below w.heap.size w ((((w.alloc (.cells #[.int .i64 1, .string ⟨#[115]⟩, .int .i64 0, .slice none 0 0] 42)).alloc (.cells #[.int .i64 1, .string ⟨#[122]⟩, .int .i64 0, .slice none 0 0] 42)).alloc (.cells #[.int .i64 1, .string ⟨#[115]⟩, .int .i64 0, .slice none 0 0, .int .i64 1, .string ⟨#[122]⟩, .int .i64 0, .slice none 0 0] 42)).alloc (.cells #[.int .i64 5, .string ⟨#[]⟩, .int .i64 0, .slice (some ⟨w.heap.size + 1 + 1, 0, none⟩) 2 2] 42))) := ⟨(by repeat (first | (with_reducible first | exact Below.refl _ _ | apply below_alloc | apply pw_below_drewN | apply below_drew1 | refine below_set ?_ (Nat.le_refl _)) | assumption))⟩
  go_enter Tryd.func40, Tryd.ntmps40
  go_wp2_with fail
  generalize ((((w.alloc (.cells #[.int .i64 1, .string ⟨#[115]⟩, .int .i64 0, .slice none 0 0] 42)).alloc (.cells #[.int .i64 1, .string ⟨#[122]⟩, .int .i64 0, .slice none 0 0] 42)).alloc (.cells #[.int .i64 1, .string ⟨#[115]⟩, .int .i64 0, .slice none 0 0, .int .i64 1, .string ⟨#[122]⟩, .int .i64 0, .slice none 0 0] 42)).alloc (.cells #[.int .i64 5, .string ⟨#[]⟩, .int .i64 0, .slice (some ⟨w.heap.size + 1 + 1, 0, none⟩) 2 2] 42)) = w4 at *
  have hC : ∀ W', Below w4.heap.size w4 W' → Kd.C k42 W' (some ⟨w.heap.size + 1 + 1, 0, none⟩) 2 [tS, tZ] := fun W' h =>
    Kd.C_below (k42_C2 (x := tS) (y := tZ) BXR.out (Nat.le_refl _) (Kd.C_nil _ _) (Nat.le_refl _) (Kd.C_nil _ _)) h
  have H35 : Aside0 (∀ W', Below w4.heap.size w4 W' → Calls Tryd.prog 35 #[.agg #[.int .i64 5, .string ⟨#[]⟩, .int .i64 0, .slice (some ⟨w.heap.size + 1 + 1, 0, none⟩) 2 2], .slice none 0 0] W' fun e w' => e = .returned (.string ⟨#[40, 115, 32, 122, 41]⟩) ∧ Below w4.heap.size w4 w') := ⟨fun W' h => by
    have := format_any tA (some ⟨w.heap.size + 1 + 1, 0, none⟩) 2 none 0 [] W' (by rw [tA_sz]; omega) tA_nm (hC W' h) (Nat.le_refl _) (Kd.C_nil _ _)
    rw [tA_fmt] at this
    exact this.mono (by rintro e w' ⟨rfl, hb⟩; exact ⟨rfl, below_step h hb⟩)⟩
  have H29 : Aside0 (∀ W', Below w4.heap.size w4 W' → Calls Tryd.prog 29 #[.agg #[.int .i64 5, .string ⟨#[]⟩, .int .i64 0, .slice (some ⟨w.heap.size + 1 + 1, 0, none⟩) 2 2]] W' fun e w' => e = .returned (.int .i64 0) ∧ Below w4.heap.size w4 w') := ⟨fun W' h => by
    have := wf_any formed_any tA (some ⟨w.heap.size + 1 + 1, 0, none⟩) 2 W' (by rw [tA_sz]; omega) tA_nm (hC W' h) (Nat.le_refl _)
    rw [tA_wf] at this
    exact this.mono (by rintro e w' ⟨rfl, hb⟩; exact ⟨rfl, below_step h hb⟩)⟩
  have H29z : Aside0 (∀ W', Below w4.heap.size w4 W' → Calls Tryd.prog 29 #[.agg #[.int .i64 0, .string ⟨#[]⟩, .int .i64 0, .slice none 0 0]] W' fun e w' => e = .returned (.int .i64 1) ∧ Below w4.heap.size w4 w') := ⟨fun W' h => by
    have := wf_any formed_any t0 none 0 W' (by rw [t0_sz]; omega) t0_nm (Kd.C_nil _ _) (Nat.le_refl _)
    rw [t0_wf] at this
    exact this.mono (by rintro e w' ⟨rfl, hb⟩; exact ⟨rfl, below_step h hb⟩)⟩
  have H31 : Aside0 (∀ W', Below w4.heap.size w4 W' → Calls Tryd.prog 31 #[.agg #[.int .i64 5, .string ⟨#[]⟩, .int .i64 0, .slice (some ⟨w.heap.size + 1 + 1, 0, none⟩) 2 2]] W' fun e w' => e = .returned (.int .i64 3) ∧ Below w4.heap.size w4 w') := ⟨fun W' h => by
    have := size_any tA (some ⟨w.heap.size + 1 + 1, 0, none⟩) 2 W' (by rw [tA_sz]; omega) (hC W' h) (Nat.le_refl _)
    rw [tA_sz] at this
    exact this.mono (by rintro e w' ⟨rfl, hb⟩; exact ⟨rfl, below_step h hb⟩)⟩
  have H33 : Aside0 (∀ W', Below w4.heap.size w4 W' → Calls Tryd.prog 33 #[.agg #[.int .i64 5, .string ⟨#[]⟩, .int .i64 0, .slice (some ⟨w.heap.size + 1 + 1, 0, none⟩) 2 2]] W' fun e w' => e = .returned (.int .i64 2) ∧ Below w4.heap.size w4 w') := ⟨fun W' h => by
    have := depth_any tA (some ⟨w.heap.size + 1 + 1, 0, none⟩) 2 W' (by rw [tA_sz]; omega) (hC W' h) (Nat.le_refl _)
    rw [tA_dp] at this
    exact this.mono (by rintro e w' ⟨rfl, hb⟩; exact ⟨rfl, below_step h hb⟩)⟩
  have H38 : Aside0 (∀ W', Below w4.heap.size w4 W' → Calls Tryd.prog 38 #[.agg #[.int .i64 5, .string ⟨#[]⟩, .int .i64 0, .slice (some ⟨w.heap.size + 1 + 1, 0, none⟩) 2 2]] W' fun e w' => ∃ A2 c2, e = .returned (.slice A2 2 c2) ∧ Below w4.heap.size w4 w') := ⟨fun W' h => by
    have := free_any tA (some ⟨w.heap.size + 1 + 1, 0, none⟩) 2 W' (by rw [tA_sz]; omega) tA_nm (hC W' h) (Nat.le_refl _)
    rw [tA_free] at this
    exact this.mono (by rintro e w' ⟨A2, c2, rfl, _, hb⟩; exact ⟨A2, c2, rfl, below_step h hb⟩)⟩
  have H41 : Aside0 (∀ W', Below w4.heap.size w4 W' → Calls Tryd.prog 41 #[.agg #[.int .i64 5, .string ⟨#[]⟩, .int .i64 0, .slice (some ⟨w.heap.size + 1 + 1, 0, none⟩) 2 2], .agg #[.int .i64 5, .string ⟨#[]⟩, .int .i64 0, .slice (some ⟨w.heap.size + 1 + 1, 0, none⟩) 2 2]] W' fun e w' => e = .returned (.bool true) ∧ Below w4.heap.size w4 w') := ⟨fun W' h => by
    have := same42_any 3 tA tA (some ⟨w.heap.size + 1 + 1, 0, none⟩) (some ⟨w.heap.size + 1 + 1, 0, none⟩) 2 2 W' (by rw [tA_sz]; omega) (by omega) (by rw [tA_sz]; omega) (hC W' h) (Nat.le_refl _) (hC W' h) (Nat.le_refl _)
    rw [tA_sm] at this
    exact this.mono (by rintro e w' ⟨rfl, hb⟩; exact ⟨rfl, below_step h hb⟩)⟩
  have H41z : Aside0 (∀ W', Below w4.heap.size w4 W' → Calls Tryd.prog 41 #[.agg #[.int .i64 1, .string ⟨#[115]⟩, .int .i64 0, .slice none 0 0], .agg #[.int .i64 1, .string ⟨#[122]⟩, .int .i64 0, .slice none 0 0]] W' fun e w' => e = .returned (.bool false) ∧ Below w4.heap.size w4 w') := ⟨fun W' h => by
    have := same42_any 3 tS tZ none none 0 0 W' (by rw [tS_sz]; omega) (by omega) (by rw [tZ_sz]; omega) (Kd.C_nil _ _) (Nat.le_refl _) (Kd.C_nil _ _) (Nat.le_refl _)
    rw [tS_sm] at this
    exact this.mono (by rintro e w' ⟨rfl, hb⟩; exact ⟨rfl, below_step h hb⟩)⟩
  have HB := Aside0.mk (Below.refl w4.heap.size w4)
  clear hC
  have s0 : w4.cell? ⟨w.heap.size, 0, none⟩ = some (.int .i64 1) := pw_cell_below HB.out ((blk_cell BX1.out 0).trans rfl)
  have s1 : w4.cell? ⟨w.heap.size, 1, none⟩ = some (.string ⟨#[115]⟩) := pw_cell_below HB.out ((blk_cell BX1.out 1).trans rfl)
  have s2 : w4.cell? ⟨w.heap.size, 2, none⟩ = some (.int .i64 0) := pw_cell_below HB.out ((blk_cell BX1.out 2).trans rfl)
  have s3 : w4.cell? ⟨w.heap.size, 3, none⟩ = some (.slice none 0 0) := pw_cell_below HB.out ((blk_cell BX1.out 3).trans rfl)
  have z0 : w4.cell? ⟨w.heap.size + 1, 0, none⟩ = some (.int .i64 1) := pw_cell_below HB.out ((blk_cell BX2.out 0).trans rfl)
  have z1 : w4.cell? ⟨w.heap.size + 1, 1, none⟩ = some (.string ⟨#[122]⟩) := pw_cell_below HB.out ((blk_cell BX2.out 1).trans rfl)
  have z2 : w4.cell? ⟨w.heap.size + 1, 2, none⟩ = some (.int .i64 0) := pw_cell_below HB.out ((blk_cell BX2.out 2).trans rfl)
  have z3 : w4.cell? ⟨w.heap.size + 1, 3, none⟩ = some (.slice none 0 0) := pw_cell_below HB.out ((blk_cell BX2.out 3).trans rfl)
  have t0 : w4.cell? ⟨w.heap.size + 1 + 1 + 1, 0, none⟩ = some (.int .i64 5) := pw_cell_below HB.out ((blk_cell BX3.out 0).trans rfl)
  have t1 : w4.cell? ⟨w.heap.size + 1 + 1 + 1, 1, none⟩ = some (.string ⟨#[]⟩) := pw_cell_below HB.out ((blk_cell BX3.out 1).trans rfl)
  have t2 : w4.cell? ⟨w.heap.size + 1 + 1 + 1, 2, none⟩ = some (.int .i64 0) := pw_cell_below HB.out ((blk_cell BX3.out 2).trans rfl)
  have t3 : w4.cell? ⟨w.heap.size + 1 + 1 + 1, 3, none⟩ = some (.slice (some ⟨w.heap.size + 1 + 1, 0, none⟩) 2 2) := pw_cell_below HB.out ((blk_cell BX3.out 3).trans rfl)
  go_wp2_with (first | (go_at_call 35; (with_reducible refine (H35.out _ HB.out).mono ?_); rintro e w' ⟨rfl, hb⟩; clear HB s0 s1 s2 s3 z0 z1 z2 z3 t0 t1 t2 t3; have HB : Aside0 (Below w4.heap.size w4 w') := ⟨hb⟩; clear hb; have s0 : w'.cell? ⟨w.heap.size, 0, none⟩ = some (.int .i64 1) := pw_cell_below HB.out ((blk_cell BX1.out 0).trans rfl); have s1 : w'.cell? ⟨w.heap.size, 1, none⟩ = some (.string ⟨#[115]⟩) := pw_cell_below HB.out ((blk_cell BX1.out 1).trans rfl); have s2 : w'.cell? ⟨w.heap.size, 2, none⟩ = some (.int .i64 0) := pw_cell_below HB.out ((blk_cell BX1.out 2).trans rfl); have s3 : w'.cell? ⟨w.heap.size, 3, none⟩ = some (.slice none 0 0) := pw_cell_below HB.out ((blk_cell BX1.out 3).trans rfl); have z0 : w'.cell? ⟨w.heap.size + 1, 0, none⟩ = some (.int .i64 1) := pw_cell_below HB.out ((blk_cell BX2.out 0).trans rfl); have z1 : w'.cell? ⟨w.heap.size + 1, 1, none⟩ = some (.string ⟨#[122]⟩) := pw_cell_below HB.out ((blk_cell BX2.out 1).trans rfl); have z2 : w'.cell? ⟨w.heap.size + 1, 2, none⟩ = some (.int .i64 0) := pw_cell_below HB.out ((blk_cell BX2.out 2).trans rfl); have z3 : w'.cell? ⟨w.heap.size + 1, 3, none⟩ = some (.slice none 0 0) := pw_cell_below HB.out ((blk_cell BX2.out 3).trans rfl); have t0 : w'.cell? ⟨w.heap.size + 1 + 1 + 1, 0, none⟩ = some (.int .i64 5) := pw_cell_below HB.out ((blk_cell BX3.out 0).trans rfl); have t1 : w'.cell? ⟨w.heap.size + 1 + 1 + 1, 1, none⟩ = some (.string ⟨#[]⟩) := pw_cell_below HB.out ((blk_cell BX3.out 1).trans rfl); have t2 : w'.cell? ⟨w.heap.size + 1 + 1 + 1, 2, none⟩ = some (.int .i64 0) := pw_cell_below HB.out ((blk_cell BX3.out 2).trans rfl); have t3 : w'.cell? ⟨w.heap.size + 1 + 1 + 1, 3, none⟩ = some (.slice (some ⟨w.heap.size + 1 + 1, 0, none⟩) 2 2) := pw_cell_below HB.out ((blk_cell BX3.out 3).trans rfl)) | (go_at_call 29; (with_reducible refine (H29.out _ HB.out).mono ?_); rintro e w' ⟨rfl, hb⟩; clear HB s0 s1 s2 s3 z0 z1 z2 z3 t0 t1 t2 t3; have HB : Aside0 (Below w4.heap.size w4 w') := ⟨hb⟩; clear hb; have s0 : w'.cell? ⟨w.heap.size, 0, none⟩ = some (.int .i64 1) := pw_cell_below HB.out ((blk_cell BX1.out 0).trans rfl); have s1 : w'.cell? ⟨w.heap.size, 1, none⟩ = some (.string ⟨#[115]⟩) := pw_cell_below HB.out ((blk_cell BX1.out 1).trans rfl); have s2 : w'.cell? ⟨w.heap.size, 2, none⟩ = some (.int .i64 0) := pw_cell_below HB.out ((blk_cell BX1.out 2).trans rfl); have s3 : w'.cell? ⟨w.heap.size, 3, none⟩ = some (.slice none 0 0) := pw_cell_below HB.out ((blk_cell BX1.out 3).trans rfl); have z0 : w'.cell? ⟨w.heap.size + 1, 0, none⟩ = some (.int .i64 1) := pw_cell_below HB.out ((blk_cell BX2.out 0).trans rfl); have z1 : w'.cell? ⟨w.heap.size + 1, 1, none⟩ = some (.string ⟨#[122]⟩) := pw_cell_below HB.out ((blk_cell BX2.out 1).trans rfl); have z2 : w'.cell? ⟨w.heap.size + 1, 2, none⟩ = some (.int .i64 0) := pw_cell_below HB.out ((blk_cell BX2.out 2).trans rfl); have z3 : w'.cell? ⟨w.heap.size + 1, 3, none⟩ = some (.slice none 0 0) := pw_cell_below HB.out ((blk_cell BX2.out 3).trans rfl); have t0 : w'.cell? ⟨w.heap.size + 1 + 1 + 1, 0, none⟩ = some (.int .i64 5) := pw_cell_below HB.out ((blk_cell BX3.out 0).trans rfl); have t1 : w'.cell? ⟨w.heap.size + 1 + 1 + 1, 1, none⟩ = some (.string ⟨#[]⟩) := pw_cell_below HB.out ((blk_cell BX3.out 1).trans rfl); have t2 : w'.cell? ⟨w.heap.size + 1 + 1 + 1, 2, none⟩ = some (.int .i64 0) := pw_cell_below HB.out ((blk_cell BX3.out 2).trans rfl); have t3 : w'.cell? ⟨w.heap.size + 1 + 1 + 1, 3, none⟩ = some (.slice (some ⟨w.heap.size + 1 + 1, 0, none⟩) 2 2) := pw_cell_below HB.out ((blk_cell BX3.out 3).trans rfl)) | (go_at_call 29; (with_reducible refine (H29z.out _ HB.out).mono ?_); rintro e w' ⟨rfl, hb⟩; clear HB s0 s1 s2 s3 z0 z1 z2 z3 t0 t1 t2 t3; have HB : Aside0 (Below w4.heap.size w4 w') := ⟨hb⟩; clear hb; have s0 : w'.cell? ⟨w.heap.size, 0, none⟩ = some (.int .i64 1) := pw_cell_below HB.out ((blk_cell BX1.out 0).trans rfl); have s1 : w'.cell? ⟨w.heap.size, 1, none⟩ = some (.string ⟨#[115]⟩) := pw_cell_below HB.out ((blk_cell BX1.out 1).trans rfl); have s2 : w'.cell? ⟨w.heap.size, 2, none⟩ = some (.int .i64 0) := pw_cell_below HB.out ((blk_cell BX1.out 2).trans rfl); have s3 : w'.cell? ⟨w.heap.size, 3, none⟩ = some (.slice none 0 0) := pw_cell_below HB.out ((blk_cell BX1.out 3).trans rfl); have z0 : w'.cell? ⟨w.heap.size + 1, 0, none⟩ = some (.int .i64 1) := pw_cell_below HB.out ((blk_cell BX2.out 0).trans rfl); have z1 : w'.cell? ⟨w.heap.size + 1, 1, none⟩ = some (.string ⟨#[122]⟩) := pw_cell_below HB.out ((blk_cell BX2.out 1).trans rfl); have z2 : w'.cell? ⟨w.heap.size + 1, 2, none⟩ = some (.int .i64 0) := pw_cell_below HB.out ((blk_cell BX2.out 2).trans rfl); have z3 : w'.cell? ⟨w.heap.size + 1, 3, none⟩ = some (.slice none 0 0) := pw_cell_below HB.out ((blk_cell BX2.out 3).trans rfl); have t0 : w'.cell? ⟨w.heap.size + 1 + 1 + 1, 0, none⟩ = some (.int .i64 5) := pw_cell_below HB.out ((blk_cell BX3.out 0).trans rfl); have t1 : w'.cell? ⟨w.heap.size + 1 + 1 + 1, 1, none⟩ = some (.string ⟨#[]⟩) := pw_cell_below HB.out ((blk_cell BX3.out 1).trans rfl); have t2 : w'.cell? ⟨w.heap.size + 1 + 1 + 1, 2, none⟩ = some (.int .i64 0) := pw_cell_below HB.out ((blk_cell BX3.out 2).trans rfl); have t3 : w'.cell? ⟨w.heap.size + 1 + 1 + 1, 3, none⟩ = some (.slice (some ⟨w.heap.size + 1 + 1, 0, none⟩) 2 2) := pw_cell_below HB.out ((blk_cell BX3.out 3).trans rfl)) | (go_at_call 31; (with_reducible refine (H31.out _ HB.out).mono ?_); rintro e w' ⟨rfl, hb⟩; clear HB s0 s1 s2 s3 z0 z1 z2 z3 t0 t1 t2 t3; have HB : Aside0 (Below w4.heap.size w4 w') := ⟨hb⟩; clear hb; have s0 : w'.cell? ⟨w.heap.size, 0, none⟩ = some (.int .i64 1) := pw_cell_below HB.out ((blk_cell BX1.out 0).trans rfl); have s1 : w'.cell? ⟨w.heap.size, 1, none⟩ = some (.string ⟨#[115]⟩) := pw_cell_below HB.out ((blk_cell BX1.out 1).trans rfl); have s2 : w'.cell? ⟨w.heap.size, 2, none⟩ = some (.int .i64 0) := pw_cell_below HB.out ((blk_cell BX1.out 2).trans rfl); have s3 : w'.cell? ⟨w.heap.size, 3, none⟩ = some (.slice none 0 0) := pw_cell_below HB.out ((blk_cell BX1.out 3).trans rfl); have z0 : w'.cell? ⟨w.heap.size + 1, 0, none⟩ = some (.int .i64 1) := pw_cell_below HB.out ((blk_cell BX2.out 0).trans rfl); have z1 : w'.cell? ⟨w.heap.size + 1, 1, none⟩ = some (.string ⟨#[122]⟩) := pw_cell_below HB.out ((blk_cell BX2.out 1).trans rfl); have z2 : w'.cell? ⟨w.heap.size + 1, 2, none⟩ = some (.int .i64 0) := pw_cell_below HB.out ((blk_cell BX2.out 2).trans rfl); have z3 : w'.cell? ⟨w.heap.size + 1, 3, none⟩ = some (.slice none 0 0) := pw_cell_below HB.out ((blk_cell BX2.out 3).trans rfl); have t0 : w'.cell? ⟨w.heap.size + 1 + 1 + 1, 0, none⟩ = some (.int .i64 5) := pw_cell_below HB.out ((blk_cell BX3.out 0).trans rfl); have t1 : w'.cell? ⟨w.heap.size + 1 + 1 + 1, 1, none⟩ = some (.string ⟨#[]⟩) := pw_cell_below HB.out ((blk_cell BX3.out 1).trans rfl); have t2 : w'.cell? ⟨w.heap.size + 1 + 1 + 1, 2, none⟩ = some (.int .i64 0) := pw_cell_below HB.out ((blk_cell BX3.out 2).trans rfl); have t3 : w'.cell? ⟨w.heap.size + 1 + 1 + 1, 3, none⟩ = some (.slice (some ⟨w.heap.size + 1 + 1, 0, none⟩) 2 2) := pw_cell_below HB.out ((blk_cell BX3.out 3).trans rfl)) | (go_at_call 33; (with_reducible refine (H33.out _ HB.out).mono ?_); rintro e w' ⟨rfl, hb⟩; clear HB s0 s1 s2 s3 z0 z1 z2 z3 t0 t1 t2 t3; have HB : Aside0 (Below w4.heap.size w4 w') := ⟨hb⟩; clear hb; have s0 : w'.cell? ⟨w.heap.size, 0, none⟩ = some (.int .i64 1) := pw_cell_below HB.out ((blk_cell BX1.out 0).trans rfl); have s1 : w'.cell? ⟨w.heap.size, 1, none⟩ = some (.string ⟨#[115]⟩) := pw_cell_below HB.out ((blk_cell BX1.out 1).trans rfl); have s2 : w'.cell? ⟨w.heap.size, 2, none⟩ = some (.int .i64 0) := pw_cell_below HB.out ((blk_cell BX1.out 2).trans rfl); have s3 : w'.cell? ⟨w.heap.size, 3, none⟩ = some (.slice none 0 0) := pw_cell_below HB.out ((blk_cell BX1.out 3).trans rfl); have z0 : w'.cell? ⟨w.heap.size + 1, 0, none⟩ = some (.int .i64 1) := pw_cell_below HB.out ((blk_cell BX2.out 0).trans rfl); have z1 : w'.cell? ⟨w.heap.size + 1, 1, none⟩ = some (.string ⟨#[122]⟩) := pw_cell_below HB.out ((blk_cell BX2.out 1).trans rfl); have z2 : w'.cell? ⟨w.heap.size + 1, 2, none⟩ = some (.int .i64 0) := pw_cell_below HB.out ((blk_cell BX2.out 2).trans rfl); have z3 : w'.cell? ⟨w.heap.size + 1, 3, none⟩ = some (.slice none 0 0) := pw_cell_below HB.out ((blk_cell BX2.out 3).trans rfl); have t0 : w'.cell? ⟨w.heap.size + 1 + 1 + 1, 0, none⟩ = some (.int .i64 5) := pw_cell_below HB.out ((blk_cell BX3.out 0).trans rfl); have t1 : w'.cell? ⟨w.heap.size + 1 + 1 + 1, 1, none⟩ = some (.string ⟨#[]⟩) := pw_cell_below HB.out ((blk_cell BX3.out 1).trans rfl); have t2 : w'.cell? ⟨w.heap.size + 1 + 1 + 1, 2, none⟩ = some (.int .i64 0) := pw_cell_below HB.out ((blk_cell BX3.out 2).trans rfl); have t3 : w'.cell? ⟨w.heap.size + 1 + 1 + 1, 3, none⟩ = some (.slice (some ⟨w.heap.size + 1 + 1, 0, none⟩) 2 2) := pw_cell_below HB.out ((blk_cell BX3.out 3).trans rfl)) | (go_at_call 38; (with_reducible refine (H38.out _ HB.out).mono ?_); rintro e w' ⟨A2, c2, rfl, hb⟩; clear HB s0 s1 s2 s3 z0 z1 z2 z3 t0 t1 t2 t3; have HB : Aside0 (Below w4.heap.size w4 w') := ⟨hb⟩; clear hb; have s0 : w'.cell? ⟨w.heap.size, 0, none⟩ = some (.int .i64 1) := pw_cell_below HB.out ((blk_cell BX1.out 0).trans rfl); have s1 : w'.cell? ⟨w.heap.size, 1, none⟩ = some (.string ⟨#[115]⟩) := pw_cell_below HB.out ((blk_cell BX1.out 1).trans rfl); have s2 : w'.cell? ⟨w.heap.size, 2, none⟩ = some (.int .i64 0) := pw_cell_below HB.out ((blk_cell BX1.out 2).trans rfl); have s3 : w'.cell? ⟨w.heap.size, 3, none⟩ = some (.slice none 0 0) := pw_cell_below HB.out ((blk_cell BX1.out 3).trans rfl); have z0 : w'.cell? ⟨w.heap.size + 1, 0, none⟩ = some (.int .i64 1) := pw_cell_below HB.out ((blk_cell BX2.out 0).trans rfl); have z1 : w'.cell? ⟨w.heap.size + 1, 1, none⟩ = some (.string ⟨#[122]⟩) := pw_cell_below HB.out ((blk_cell BX2.out 1).trans rfl); have z2 : w'.cell? ⟨w.heap.size + 1, 2, none⟩ = some (.int .i64 0) := pw_cell_below HB.out ((blk_cell BX2.out 2).trans rfl); have z3 : w'.cell? ⟨w.heap.size + 1, 3, none⟩ = some (.slice none 0 0) := pw_cell_below HB.out ((blk_cell BX2.out 3).trans rfl); have t0 : w'.cell? ⟨w.heap.size + 1 + 1 + 1, 0, none⟩ = some (.int .i64 5) := pw_cell_below HB.out ((blk_cell BX3.out 0).trans rfl); have t1 : w'.cell? ⟨w.heap.size + 1 + 1 + 1, 1, none⟩ = some (.string ⟨#[]⟩) := pw_cell_below HB.out ((blk_cell BX3.out 1).trans rfl); have t2 : w'.cell? ⟨w.heap.size + 1 + 1 + 1, 2, none⟩ = some (.int .i64 0) := pw_cell_below HB.out ((blk_cell BX3.out 2).trans rfl); have t3 : w'.cell? ⟨w.heap.size + 1 + 1 + 1, 3, none⟩ = some (.slice (some ⟨w.heap.size + 1 + 1, 0, none⟩) 2 2) := pw_cell_below HB.out ((blk_cell BX3.out 3).trans rfl)) | (go_at_call 41; (with_reducible refine (H41.out _ HB.out).mono ?_); rintro e w' ⟨rfl, hb⟩; clear HB s0 s1 s2 s3 z0 z1 z2 z3 t0 t1 t2 t3; have HB : Aside0 (Below w4.heap.size w4 w') := ⟨hb⟩; clear hb; have s0 : w'.cell? ⟨w.heap.size, 0, none⟩ = some (.int .i64 1) := pw_cell_below HB.out ((blk_cell BX1.out 0).trans rfl); have s1 : w'.cell? ⟨w.heap.size, 1, none⟩ = some (.string ⟨#[115]⟩) := pw_cell_below HB.out ((blk_cell BX1.out 1).trans rfl); have s2 : w'.cell? ⟨w.heap.size, 2, none⟩ = some (.int .i64 0) := pw_cell_below HB.out ((blk_cell BX1.out 2).trans rfl); have s3 : w'.cell? ⟨w.heap.size, 3, none⟩ = some (.slice none 0 0) := pw_cell_below HB.out ((blk_cell BX1.out 3).trans rfl); have z0 : w'.cell? ⟨w.heap.size + 1, 0, none⟩ = some (.int .i64 1) := pw_cell_below HB.out ((blk_cell BX2.out 0).trans rfl); have z1 : w'.cell? ⟨w.heap.size + 1, 1, none⟩ = some (.string ⟨#[122]⟩) := pw_cell_below HB.out ((blk_cell BX2.out 1).trans rfl); have z2 : w'.cell? ⟨w.heap.size + 1, 2, none⟩ = some (.int .i64 0) := pw_cell_below HB.out ((blk_cell BX2.out 2).trans rfl); have z3 : w'.cell? ⟨w.heap.size + 1, 3, none⟩ = some (.slice none 0 0) := pw_cell_below HB.out ((blk_cell BX2.out 3).trans rfl); have t0 : w'.cell? ⟨w.heap.size + 1 + 1 + 1, 0, none⟩ = some (.int .i64 5) := pw_cell_below HB.out ((blk_cell BX3.out 0).trans rfl); have t1 : w'.cell? ⟨w.heap.size + 1 + 1 + 1, 1, none⟩ = some (.string ⟨#[]⟩) := pw_cell_below HB.out ((blk_cell BX3.out 1).trans rfl); have t2 : w'.cell? ⟨w.heap.size + 1 + 1 + 1, 2, none⟩ = some (.int .i64 0) := pw_cell_below HB.out ((blk_cell BX3.out 2).trans rfl); have t3 : w'.cell? ⟨w.heap.size + 1 + 1 + 1, 3, none⟩ = some (.slice (some ⟨w.heap.size + 1 + 1, 0, none⟩) 2 2) := pw_cell_below HB.out ((blk_cell BX3.out 3).trans rfl)) | (go_at_call 41; (with_reducible refine (H41z.out _ HB.out).mono ?_); rintro e w' ⟨rfl, hb⟩; clear HB s0 s1 s2 s3 z0 z1 z2 z3 t0 t1 t2 t3; have HB : Aside0 (Below w4.heap.size w4 w') := ⟨hb⟩; clear hb; have s0 : w'.cell? ⟨w.heap.size, 0, none⟩ = some (.int .i64 1) := pw_cell_below HB.out ((blk_cell BX1.out 0).trans rfl); have s1 : w'.cell? ⟨w.heap.size, 1, none⟩ = some (.string ⟨#[115]⟩) := pw_cell_below HB.out ((blk_cell BX1.out 1).trans rfl); have s2 : w'.cell? ⟨w.heap.size, 2, none⟩ = some (.int .i64 0) := pw_cell_below HB.out ((blk_cell BX1.out 2).trans rfl); have s3 : w'.cell? ⟨w.heap.size, 3, none⟩ = some (.slice none 0 0) := pw_cell_below HB.out ((blk_cell BX1.out 3).trans rfl); have z0 : w'.cell? ⟨w.heap.size + 1, 0, none⟩ = some (.int .i64 1) := pw_cell_below HB.out ((blk_cell BX2.out 0).trans rfl); have z1 : w'.cell? ⟨w.heap.size + 1, 1, none⟩ = some (.string ⟨#[122]⟩) := pw_cell_below HB.out ((blk_cell BX2.out 1).trans rfl); have z2 : w'.cell? ⟨w.heap.size + 1, 2, none⟩ = some (.int .i64 0) := pw_cell_below HB.out ((blk_cell BX2.out 2).trans rfl); have z3 : w'.cell? ⟨w.heap.size + 1, 3, none⟩ = some (.slice none 0 0) := pw_cell_below HB.out ((blk_cell BX2.out 3).trans rfl); have t0 : w'.cell? ⟨w.heap.size + 1 + 1 + 1, 0, none⟩ = some (.int .i64 5) := pw_cell_below HB.out ((blk_cell BX3.out 0).trans rfl); have t1 : w'.cell? ⟨w.heap.size + 1 + 1 + 1, 1, none⟩ = some (.string ⟨#[]⟩) := pw_cell_below HB.out ((blk_cell BX3.out 1).trans rfl); have t2 : w'.cell? ⟨w.heap.size + 1 + 1 + 1, 2, none⟩ = some (.int .i64 0) := pw_cell_below HB.out ((blk_cell BX3.out 2).trans rfl); have t3 : w'.cell? ⟨w.heap.size + 1 + 1 + 1, 3, none⟩ = some (.slice (some ⟨w.heap.size + 1 + 1, 0, none⟩) 2 2) := pw_cell_below HB.out ((blk_cell BX3.out 3).trans rfl)))
  go_ret
  exact ⟨rfl, below_step HBW.out HB.out⟩
end
end Go.Proofs.YtajefkjcfmfjkaaDoor
namespace Go.Proofs.YtajefkjcfmfjkaaDoor
section
set_option linter.unusedVariables false
set_option linter.unusedSimpArgs false
set_option linter.deprecated false
open Go.RowKit Go.Proofs.YtajefkjcfmfjkaaDoorW.PrintWords Go.Proofs.YtajefkjcfmfjkaaDoor.PRawForms
/-- a number cut to less than n -/
def cutN (x : Int) (n : Nat) : Nat := (x % 18446744073709551616).toNat % n
theorem cutN_lt (x : Int) {n : Nat} (h : 0 < n) : cutN x n < n := Nat.mod_lt _ h
theorem cut_any (x : Int) (n : Nat) (w : World) (h0 : 0 < n) (h1 : n ≤ 1000000) :
    Calls Tryd.prog 27 #[.int .i64 x, .int .i64 n] w fun e w' => e = .returned (.int .i64 (cutN x n)) ∧ w' = w := by
  have e1 : IntKind.u64.wrap (n : Int) = n := by
    show (n : Int) % 18446744073709551616 = n
    omega
  have e0 : ((n : Int) == 0) = false := by rw [beq_eq_false_iff_ne]; omega
  have e2 : wrap64 (Int.tmod (IntKind.u64.wrap x) (n : Int)) = (cutN x n : Nat) := by
    have h2 : IntKind.u64.wrap x = x % 18446744073709551616 := rfl
    rw [h2]
    unfold cutN
    have h3 : 0 ≤ x % 18446744073709551616 := by omega
    obtain ⟨m, hm⟩ := Int.eq_ofNat_of_zero_le h3
    rw [hm]
    have h4 : Int.tmod (m : Int) (n : Int) = ((m % n : Nat) : Int) := rfl
    rw [h4, Int.toNat_natCast]
    have := Nat.mod_lt m h0
    unfold wrap64
    omega
  go_enter Tryd.func27, Tryd.ntmps27
  go_wp2
  go_ret
  exact ⟨ret_int e2, rfl⟩
end
end Go.Proofs.YtajefkjcfmfjkaaDoor
namespace Go.Proofs.YtajefkjcfmfjkaaDoor
section
set_option linter.unusedVariables false
set_option linter.unusedSimpArgs false
set_option linter.deprecated false
open Go.RowKit Go.Proofs.YtajefkjcfmfjkaaDoorW.PrintWords Go.Proofs.YtajefkjcfmfjkaaDoor.PRawForms
set_option linter.unusedVariables false
def wdL : List (List UInt8) := [[97], [98], [78], [77], [43], [42], [126], [33], [110, 97, 116], [102], [64, 120], [116, 121, 112, 101], []]
def wdAt (j : Nat) : List UInt8 := wdL.getD j []
def wdB (j : Nat) : ByteArray := ⟨(wdAt j).toArray⟩
/-- the variable of the words holds them -/
structure WdAt (w : World) : Prop where
  mk :: (out : ∃ ad c, w.cell? ⟨1, 0, none⟩ = some (.slice (some ad) 13 c) ∧ ∀ j, j < 13 → w.cell? (ad.add j) = some (.string (wdB j)))
theorem WdAt.below {w w1 : World} (h : WdAt w) (hb : Below w.heap.size w w1) : WdAt w1 := by
  obtain ⟨ad, c, h1, h2⟩ := h.out
  exact ⟨ad, c, pw_cell_below hb h1, fun j hj => pw_cell_below hb (h2 j hj)⟩
theorem wdB_len (j : Nat) : (wdB j).size ≤ 64 := by
  have : (wdAt j).length ≤ 64 := by
    rcases Nat.lt_or_ge j 13 with h | h
    · revert j; decide
    · have hl : wdL.length ≤ j := h
      unfold wdAt
      rw [List.getD_eq_getElem?_getD, List.getElem?_eq_none hl]
      simp
  simpa [wdB, ByteArray.size] using this
theorem wdB_name : ∀ j, j < 10 → nameS (wdB j) = true := by decide +kernel
theorem cutF (x : Int) (n : Nat) (h0 : 0 < n) (h1 : n ≤ 1000000) : lfcheckmade_Cut.f x n = some (cutN x n : Int) := by
  have e1 : IntKind.u64.wrap (n : Int) = n := by
    show (n : Int) % 18446744073709551616 = n
    omega
  have e2 : wrap64 (Int.tmod (IntKind.u64.wrap x) (n : Int)) = (cutN x n : Nat) := by
    have h2 : IntKind.u64.wrap x = x % 18446744073709551616 := rfl
    rw [h2]
    unfold cutN
    have h3 : 0 ≤ x % 18446744073709551616 := by omega
    obtain ⟨m, hm⟩ := Int.eq_ofNat_of_zero_le h3
    rw [hm]
    have h4 : Int.tmod (m : Int) (n : Int) = ((m % n : Nat) : Int) := rfl
    rw [h4, Int.toNat_natCast]
    have := Nat.mod_lt m h0
    unfold wrap64
    omega
  unfold lfcheckmade_Cut.f
  rw [e1, if_neg (by omega), e2]
/-- the tape, somewhere -/
def Tp (w0 W : World) (g : Nat) : Prop := Below w0.heap.size w0 W ∧ ∃ zs k, IsS59 w0 W g zs k ∧ 0 ≤ k ∧ k ≤ (zs.length : Int) ∧ (zs.length : Int) ≤ 9223372036854775807
theorem tnext_any (w0 W : World) (g n : Nat) (h : Tp w0 W g) (h0 : 0 < n) (h1 : n ≤ 1000000) :
    Calls Tryd.prog 76 #[.pointer (some ⟨g, 0, none⟩), .int .i64 n] W fun e w' => ∃ r : Nat, r < n ∧ e = .returned (.int .i64 r) ∧ Tp w0 w' g ∧ KeepBut W w' g none := by
  obtain ⟨hb, zs, k, hI, hk0, hk1, hl⟩ := h
  by_cases hge : k ≥ (zs.length : Int)
  · have hf : lfcheckmade_Tape_Next.f zs k n = some (0, k) := by unfold lfcheckmade_Tape_Next.f; rw [if_pos hge]
    refine (lfcheckmade_Tape_Next.calls g zs k n 0 k w0 W hI hb hf).mono ?_
    rintro e w' ⟨rfl, hI', hb', hk'⟩
    exact ⟨0, h0, rfl, ⟨hb', zs, k, hI', hk0, hk1, hl⟩, hk'⟩
  · have e1 : wrap64 (k + 1) = k + 1 := by unfold wrap64; omega
    have e2 : wrap64 (k + 1 - 1) = k := by unfold wrap64; omega
    have hf : lfcheckmade_Tape_Next.f zs k n = some ((cutN (rd zs k) n : Int), k + 1) := by
      unfold lfcheckmade_Tape_Next.f
      rw [if_neg hge, e1, e2, if_pos hk0, if_pos (by omega), cutF _ _ h0 h1]
      rfl
    refine (lfcheckmade_Tape_Next.calls g zs k n _ _ w0 W hI hb hf).mono ?_
    rintro e w' ⟨rfl, hI', hb', hk'⟩
    exact ⟨_, cutN_lt _ h0, rfl, ⟨hb', zs, k + 1, hI', by omega, by omega, hl⟩, hk'⟩
theorem Tp.keep {w0 W W' : World} {g : Nat} (h : Tp w0 W g) (hb : Below W.heap.size W W') : Tp w0 W' g := by
  obtain ⟨h0, zs, k, hI, h1, h2, h3⟩ := h
  exact ⟨below_step h0 hb, zs, k, hI.below hb, h1, h2, h3⟩
end
end Go.Proofs.YtajefkjcfmfjkaaDoor
namespace Go.Proofs.YtajefkjcfmfjkaaDoor
section
set_option linter.unusedVariables false
set_option linter.unusedSimpArgs false
set_option linter.deprecated false
open Go.RowKit Go.Proofs.YtajefkjcfmfjkaaDoorW.PrintWords Go.Proofs.YtajefkjcfmfjkaaDoor.PRawForms
set_option linter.unusedVariables false
def Made (i : Nat) (t : S42) : Prop := fmT t = true ∧ nmT t = true ∧ szT t + 1 ≤ 2 ^ (i + 1) ∧ dpT t ≤ i + 1
/-- a row of trees that lies in blocks from 'lo' on -/
def Foot (lo : Nat) (w : World) (A : Option Addr) (l : List S42) : Prop := ∀ W', (∀ k, lo ≤ k → k < w.heap.size → W'.heap[k]? = w.heap[k]?) → Kd.C k42 W' A l.length l
theorem Foot.nil (lo : Nat) (w : World) : Foot lo w none [] := fun W' _ => Kd.C_nil _ _
theorem Foot.step {lo lo' : Nat} {w w' : World} {A : Option Addr} {l : List S42} (h : Foot lo w A l) (hlo : lo' ≤ lo) (hsz : w.heap.size ≤ w'.heap.size) (hk : ∀ k, lo ≤ k → k < w.heap.size → w'.heap[k]? = w.heap[k]?) : Foot lo' w' A l :=
  fun W' hW => h W' (fun k h1 h2 => (hW k (by omega) (by omega)).trans (hk k h1 h2))
def RawPost (w0 : World) (g i : Nat) (W : World) (e : Ending) (w' : World) : Prop :=
  ∃ (t : S42) (A : Option Addr) (c : Nat), e = .returned (.agg #[.int .i64 t.f0, .string t.f1, .int .i64 t.f2, .slice A t.f3.length c]) ∧ Made i t ∧ t.f3.length ≤ c ∧ Tp w0 w' g ∧ KeepBut W w' g none ∧ Foot W.heap.size w' A t.f3
theorem Tp.lt {w0 W : World} {g : Nat} (h : Tp w0 W g) : g < W.heap.size := by
  obtain ⟨_, zs, k, hI, _⟩ := h
  exact hI.lt
theorem Tp.set {w0 W : World} {g b : Nat} (h : Tp w0 W g) (hb : w0.heap.size ≤ b) (hne : g ≠ b) (i : Nat) (v : Value) : Tp w0 (W.setCell ⟨b, i, none⟩ v) g := by
  obtain ⟨h0, zs, k, hI, h1, h2, h3⟩ := h
  exact ⟨h0.setCell (p := ⟨b, i, none⟩) hb _, zs, k, hI.far (p := ⟨b, i, none⟩) hne v, h1, h2, h3⟩
theorem keep_set {W W1 : World} {g b : Nat} (h : KeepBut W W1 g none) (hb : W.heap.size ≤ b) (i : Nat) (v : Value) : KeepBut W (W1.setCell ⟨b, i, none⟩ v) g none :=
  ⟨by simpa [World.setCell] using h.1, fun j hj hg hr => (Below.heap_setCell W1 ⟨b, i, none⟩ v j (show j ≠ b by omega)).trans (h.2 j hj hg hr)⟩
theorem Tp.alloc {w0 W : World} {g : Nat} (h : Tp w0 W g) (o : Obj) : Tp w0 (W.alloc o) g := h.keep (below_alloc (Below.refl _ _) o)
theorem box_set4 {w : World} {b : Nat} {c0 c1 c2 c3 : Value} (h : w.heap[b]? = some (.cells #[c0, c1, c2, c3] 42 (0, 0))) (v0 v1 v2 v3 : Value) :
    ((((w.setCell ⟨b, 0, none⟩ v0).setCell ⟨b, 1, none⟩ v1).setCell ⟨b, 2, none⟩ v2).setCell ⟨b, 3, none⟩ v3).heap[b]? = some (.cells #[v0, v1, v2, v3] 42 (0, 0)) := by
  refine blk_put (cs := #[v0, v1, v2, c3]) ?_ 3 _ rfl
  refine blk_put (cs := #[v0, v1, c2, c3]) ?_ 2 _ rfl
  refine blk_put (cs := #[v0, c1, c2, c3]) ?_ 1 _ rfl
  exact blk_put (cs := #[c0, c1, c2, c3]) h 0 _ rfl
/-- the same four cells, stored: what stays -/
theorem set4_tp {w0 w : World} {g b : Nat} (h : Tp w0 w g) (hb : w0.heap.size ≤ b) (hne : g ≠ b) (v0 v1 v2 v3 : Value) : Tp w0 ((((w.setCell ⟨b, 0, none⟩ v0).setCell ⟨b, 1, none⟩ v1).setCell ⟨b, 2, none⟩ v2).setCell ⟨b, 3, none⟩ v3) g :=
  (((h.set hb hne _ _).set hb hne _ _).set hb hne _ _).set hb hne _ _
theorem set4_keep {W w : World} {g b : Nat} (h : KeepBut W w g none) (hb : W.heap.size ≤ b) (v0 v1 v2 v3 : Value) : KeepBut W ((((w.setCell ⟨b, 0, none⟩ v0).setCell ⟨b, 1, none⟩ v1).setCell ⟨b, 2, none⟩ v2).setCell ⟨b, 3, none⟩ v3) g none :=
  keep_set (keep_set (keep_set (keep_set h hb _ _) hb _ _) hb _ _) hb _ _
theorem made34 (i : Nat) (k o : Int) (h : k = 3 ∨ k = 4) : Made i ⟨k, ⟨#[]⟩, o, []⟩ := by
  have hp : 1 ≤ 2 ^ i := Nat.one_le_two_pow
  refine ⟨?_, ?_, ?_, ?_⟩
  · rw [fmT_eq]; unfold nodeS; rw [if_neg (by simp only; omega), if_pos h]; simp [fmL, eqB_self]
  · rw [nmT_eq]; simp [nmL, ByteArray.size]
  · rw [szT_eq]; simp only [szL]; rw [Nat.pow_succ]; omega
  · rw [dpT]; simp only [dpL]; omega
theorem made12 (i : Nat) (k o : Int) (n : ByteArray) (h : k = 1 ∨ k = 2) (hn : nameS n = true) (hs : n.size ≤ 64) : Made i ⟨k, n, o, []⟩ := by
  have hp : 1 ≤ 2 ^ i := Nat.one_le_two_pow
  refine ⟨?_, ?_, ?_, ?_⟩
  · rw [fmT_eq]; unfold nodeS; rw [if_pos h]; simp [fmL, hn]
  · rw [nmT_eq]; simp [nmL, hs]
  · rw [szT_eq]; simp only [szL]; rw [Nat.pow_succ]; omega
  · rw [dpT]; simp only [dpL]; omega
theorem tnext_int (w0 W : World) (g : Nat) (n : Int) (h : Tp w0 W g) (h0 : 0 < n) (h1 : n ≤ 1000000) :
    Calls Tryd.prog 76 #[.pointer (some ⟨g, 0, none⟩), .int .i64 n] W fun e w' => ∃ r : Nat, (r : Int) < n ∧ e = .returned (.int .i64 r) ∧ Tp w0 w' g ∧ KeepBut W w' g none := by
  obtain ⟨m, rfl⟩ := Int.eq_ofNat_of_zero_le (Int.le_of_lt h0)
  refine (tnext_any w0 W g m h (by omega) (by omega)).mono ?_
  rintro e w' ⟨r, hr, h⟩
  exact ⟨r, by omega, h⟩
set_option maxHeartbeats 4000000 in
set_option maxRecDepth 100000 in
theorem raw_zero (w0 : World) (hw : WdAt w0) (g : Nat) (W : World) (hT : Tp w0 W g) :
    Calls Tryd.prog 59 #[.pointer (some ⟨g, 0, none⟩), .int .i64 0] W (RawPost w0 g 0 W) := by
  have hu42 := Tryd.underlying42
  have NX : Aside0 (∀ (n : Int) (W' : World), Tp w0 W' g → 0 < n → n ≤ 1000000 → Calls Tryd.prog 76 #[.pointer (some ⟨g, 0, none⟩), .int .i64 n] W' fun e w' => ∃ r : Nat, (r : Int) < n ∧ e = .returned (.int .i64 r) ∧ Tp w0 w' g ∧ KeepBut W' w' g none) := ⟨fun n W' h h0 h1 => tnext_int w0 W' g n h h0 h1⟩
  have T0 := Aside0.mk hT
  obtain ⟨ad, cw, hg, he⟩ := hw.out
  have WG := Aside0.mk hg
  have WE := Aside0.mk he
  have GA : Aside0 (∀ W', Below w0.heap.size w0 W' → W'.cell? ⟨1, 0, none⟩ = some (.slice (some ad) 13 cw) ∧ ∀ j, j < 13 → W'.cell? (ad.add j) = some (.string (wdB j))) := ⟨fun W' h => ⟨pw_cell_below h hg, fun j hj => pw_cell_below h (he j hj)⟩⟩
  clear hT hw hg he
  go_enter Tryd.func59, Tryd.ntmps59
  go_wp2_with fail
  go_at_call 76
  refine (NX.out 9 _ ?t1 (by omega) (by omega)).mono ?_
  case t1 => exact T0.out.keep (by repeat (first | (with_reducible first | exact Below.refl _ _ | apply below_alloc | apply pw_below_drewN | apply below_drew1 | refine below_set ?_ (Nat.le_refl _)) | assumption))
  rintro e w1 ⟨r, hr, rfl, h1, k1⟩
  have T1 := Aside0.mk h1
  have K1 : Aside0 (KeepBut W w1 g none) := ⟨(KeepBut.of_below (below_alloc (Below.refl _ W) _) g none).trans k1 (.inl rfl)⟩
  have BX1 : Aside0 (w1.heap[W.heap.size]? = some (.cells #[.int .i64 0, .string ⟨#[]⟩, .int .i64 0, .slice none 0 0] 42 (0, 0))) := ⟨k1.blk (heap_alloc_new _ _) (Nat.ne_of_gt (Tp.lt T0.out)) (by simp)⟩
  clear h1 k1
  have HS1 : Aside0 (W.heap.size < w1.heap.size) := ⟨blk_lt BX1.out⟩
  have GL : Aside0 (g < W.heap.size) := ⟨T0.out.lt⟩
  have HWW : Aside0 (w0.heap.size ≤ W.heap.size) := ⟨below_size T0.out.1⟩
  have q9 : IntKind.i64.wrap (1 + (r : Int)) = 1 + (r : Int) := IntWalk.i64_in _ (by omega)
  go_wp2_with fail
  go_at_call 76
  refine (NX.out 5 _ ?t2 (by omega) (by omega)).mono ?_
  case t2 => exact T1.out.keep (by repeat (first | (with_reducible first | exact Below.refl _ _ | apply below_alloc | apply pw_below_drewN | apply below_drew1 | refine below_set ?_ (Nat.le_refl _)) | assumption))
  rintro e w2 ⟨r2, hr2, rfl, h1, k1⟩
  have T2 := Aside0.mk h1
  have K2 : Aside0 (KeepBut W w2 g none) := ⟨K1.out.trans ((KeepBut.of_below (below_alloc (Below.refl _ w1) _) g none).trans k1 (.inl rfl)) (.inl rfl)⟩
  have BI : Aside0 (w2.heap[w1.heap.size]? = some (.cells #[.int .i64 1, .int .i64 1, .int .i64 3, .int .i64 4, .int .i64 2] 3 (0, 0))) := ⟨k1.blk (heap_alloc_new _ _) (Nat.ne_of_gt (Tp.lt T1.out)) (by simp)⟩
  have BX2 : Aside0 (w2.heap[W.heap.size]? = some (.cells #[.int .i64 0, .string ⟨#[]⟩, .int .i64 0, .slice none 0 0] 42 (0, 0))) := ⟨k1.blk ((al_old _ _ (blk_lt BX1.out)).trans BX1.out) (Nat.ne_of_gt GL.out) (by simp)⟩
  clear h1 k1 K1 BX1 q9
  obtain ⟨k, hk, hx⟩ : ∃ k : Int, (k = 1 ∨ k = 2 ∨ k = 3 ∨ k = 4) ∧ w2.cell? ⟨w1.heap.size, r2, none⟩ = some (.int .i64 k) := by
    rw [blk_cell BI.out r2]
    have : r2 = 0 ∨ r2 = 1 ∨ r2 = 2 ∨ r2 = 3 ∨ r2 = 4 := by omega
    rcases this with rfl | rfl | rfl | rfl | rfl
    · exact ⟨1, by simp, rfl⟩
    · exact ⟨1, by simp, rfl⟩
    · exact ⟨3, by simp, rfl⟩
    · exact ⟨4, by simp, rfl⟩
    · exact ⟨2, by simp, rfl⟩
  have HK := Aside0.mk hk
  have q0 := eq_true (show (0 : Int) ≤ (r2 : Int) by omega)
  have q1 := eq_true (show (r2 : Int) < 5 by omega)
  clear hk hr hr2
  go_wp2_with fail
  go_at_call 76
  refine (NX.out 100 _ ?t3 (by omega) (by omega)).mono ?_
  case t3 => exact T2.out.keep (by repeat (first | (with_reducible first | exact Below.refl _ _ | apply below_alloc | apply pw_below_drewN | apply below_drew1 | refine below_set ?_ (Nat.le_refl _)) | assumption))
  rintro e w3 ⟨r3, hr3, rfl, h1, k1⟩
  have T3 := Aside0.mk h1
  have K3 := Aside0.mk (K2.out.trans k1 (.inl rfl))
  have BX3 : Aside0 (w3.heap[W.heap.size]? = some (.cells #[.int .i64 0, .string ⟨#[]⟩, .int .i64 0, .slice none 0 0] 42 (0, 0))) := ⟨k1.blk BX2.out (Nat.ne_of_gt GL.out) (by simp)⟩
  clear h1 k1 K2 BX2 hx q0 q1 hr3 BI T2
  rcases HK.out with rfl | rfl | rfl | rfl
  · clear HK
    go_wp2_with fail
    have HW3 : Aside0 (w0.heap.size ≤ w3.heap.size) := ⟨below_size T3.out.1⟩
    go_region_held2 (fun W' => W'.cell? ⟨1, 0, none⟩ = some (.slice (some ad) 13 cw) ∧ ∀ j, j < 13 → W'.cell? (ad.add j) = some (.string (wdB j))) ((first | exact GA.out _ (below_drew (below_alloc T3.out.1 _)) | exact GA.out _ T4.out.1 | exact GA.out _ (T4.out.1.setCell (p := ⟨w3.heap.size, 1, none⟩) HW3.out _))) ((go_at_call 76; (with_reducible refine (NX.out 10 _ ?t4 (by omega) (by omega)).mono ?_); (case t4 => exact T3.out.keep (by repeat (first | (with_reducible first | exact Below.refl _ _ | apply below_alloc | apply pw_below_drewN | apply below_drew1 | refine below_set ?_ (Nat.le_refl _)) | assumption))); rintro e w4 ⟨r4, hr4, rfl, h1, k1⟩; have T4 := Aside0.mk h1; have B6 : Aside0 (w4.heap[w3.heap.size]? = some (.cells #[.int .i64 1, .string ⟨#[]⟩, .int .i64 r3, .slice none 0 0] 42 (0, 0))) := ⟨k1.blk (heap_alloc_new _ _) (Nat.ne_of_gt (Tp.lt T3.out)) (by simp)⟩; have BX4 : Aside0 (w4.heap[W.heap.size]? = some (.cells #[.int .i64 0, .string ⟨#[]⟩, .int .i64 0, .slice none 0 0] 42 (0, 0))) := ⟨k1.blk ((al_old _ _ (blk_lt BX3.out)).trans BX3.out) (Nat.ne_of_gt GL.out) (by simp)⟩; have K4 : Aside0 (KeepBut W w4 g none) := ⟨K3.out.trans ((KeepBut.of_below (below_alloc (Below.refl _ w3) _) g none).trans k1 (.inl rfl)) (.inl rfl)⟩; have q2 := eq_true (show r4 < 13 by omega); have q0 := eq_true (show (0 : Int) ≤ (r4 : Int) by omega); have q1 := eq_true (show (r4 : Int) < 13 by omega); have R4 := Aside0.mk hr4; have z0 : w4.cell? ⟨W.heap.size, 0, none⟩ = some (.int .i64 0) := (blk_cell BX4.out 0).trans rfl; have z1 : w4.cell? ⟨W.heap.size, 1, none⟩ = some (.string ⟨#[]⟩) := (blk_cell BX4.out 1).trans rfl; have z2 : w4.cell? ⟨W.heap.size, 2, none⟩ = some (.int .i64 0) := (blk_cell BX4.out 2).trans rfl; have z3 : w4.cell? ⟨W.heap.size, 3, none⟩ = some (.slice none 0 0) := (blk_cell BX4.out 3).trans rfl; have y0 := blk_frozen BX4.out 0; have y1 := blk_frozen BX4.out 1; have y2 := blk_frozen BX4.out 2; have y3 := blk_frozen BX4.out 3; have hlw4 : W.heap.size < w4.heap.size := blk_lt BX4.out; have u0 : w4.cell? ⟨w3.heap.size, 0, none⟩ = some (.int .i64 1) := (blk_cell B6.out 0).trans rfl; have u1 : w4.cell? ⟨w3.heap.size, 1, none⟩ = some (.string ⟨#[]⟩) := (blk_cell B6.out 1).trans rfl; have u2 : w4.cell? ⟨w3.heap.size, 2, none⟩ = some (.int .i64 r3) := (blk_cell B6.out 2).trans rfl; have u3 : w4.cell? ⟨w3.heap.size, 3, none⟩ = some (.slice none 0 0) := (blk_cell B6.out 3).trans rfl; have v0 := blk_frozen B6.out 0; have v1 := blk_frozen B6.out 1; have v2 := blk_frozen B6.out 2; have v3 := blk_frozen B6.out 3; have hl6 : w3.heap.size < w4.heap.size := blk_lt B6.out; clear h1 k1 hr4))
    have GW3 : Aside0 (g < w3.heap.size ∧ W.heap.size < w3.heap.size) := ⟨⟨T3.out.lt, blk_lt BX3.out⟩⟩
    have T5 := Aside0.mk (T4.out.set HW3.out (Nat.ne_of_lt GW3.out.1) 1 (.string (wdB r4)))
    have K5 := Aside0.mk (keep_set K4.out (Nat.le_of_lt GW3.out.2) 1 (.string (wdB r4)))
    have BX5 := Aside0.mk (blk_far BX4.out (p := ⟨w3.heap.size, 1, none⟩) (Nat.ne_of_lt GW3.out.2) (.string (wdB r4)))
    have B65 : Aside0 ((w4.setCell ⟨w3.heap.size, 1, none⟩ (.string (wdB r4))).heap[w3.heap.size]? = some (.cells #[.int .i64 1, .string (wdB r4), .int .i64 r3, .slice none 0 0] 42 (0, 0))) := ⟨blk_put B6.out 1 _ rfl⟩
    clear z0 z1 z2 z3 y0 y1 y2 y3 u0 u1 u2 u3 v0 v1 v2 v3 q0 q1 q2 hl6 hlw4 B6 BX4 K4 T4
    generalize w4.setCell ⟨w3.heap.size, 1, none⟩ (.string (wdB r4)) = w5 at *
    have z0 : w5.cell? ⟨W.heap.size, 0, none⟩ = some (.int .i64 0) := (blk_cell BX5.out 0).trans rfl
    have z1 : w5.cell? ⟨W.heap.size, 1, none⟩ = some (.string ⟨#[]⟩) := (blk_cell BX5.out 1).trans rfl
    have z2 : w5.cell? ⟨W.heap.size, 2, none⟩ = some (.int .i64 0) := (blk_cell BX5.out 2).trans rfl
    have z3 : w5.cell? ⟨W.heap.size, 3, none⟩ = some (.slice none 0 0) := (blk_cell BX5.out 3).trans rfl
    have y0 := blk_frozen BX5.out 0
    have y1 := blk_frozen BX5.out 1
    have y2 := blk_frozen BX5.out 2
    have y3 := blk_frozen BX5.out 3
    have hlw5 : W.heap.size < w5.heap.size := blk_lt BX5.out
    have u0 : w5.cell? ⟨w3.heap.size, 0, none⟩ = some (.int .i64 1) := (blk_cell B65.out 0).trans rfl
    have u1 : w5.cell? ⟨w3.heap.size, 1, none⟩ = some (.string (wdB r4)) := (blk_cell B65.out 1).trans rfl
    have u2 : w5.cell? ⟨w3.heap.size, 2, none⟩ = some (.int .i64 r3) := (blk_cell B65.out 2).trans rfl
    have u3 : w5.cell? ⟨w3.heap.size, 3, none⟩ = some (.slice none 0 0) := (blk_cell B65.out 3).trans rfl
    have hl6 : w3.heap.size < w5.heap.size := blk_lt B65.out
    have HL5 := Aside0.mk hlw5
    go_wp2_with fail
    refine bodyPost_ret (results_cell_row rfl _ _ W.heap.size 42 #[.int .i64 1, .string (wdB r4), .int .i64 r3, .slice none 0 0] (0, 0) _ rfl ?hp Tryd.underlying42 rfl (by kernel_rfl)) rfl ?_
    case hp => first | (with_reducible exact box_set4 BX5.out _ _ _ _) | (rw [al_old _ _ (by simpa [World.setCell] using HL5.out)]; exact box_set4 BX5.out _ _ _ _)
    refine ⟨⟨1, (wdB r4), r3, []⟩, none, 0, rfl, made12 0 1 _ _ (by omega) (wdB_name r4 (by have := R4.out; omega)) (wdB_len r4), Nat.le_refl _, ?_, ?_, Foot.nil _ _⟩
    · with_reducible first | exact set4_tp T5.out HWW.out (Nat.ne_of_lt GL.out) _ _ _ _ | exact (set4_tp T5.out HWW.out (Nat.ne_of_lt GL.out) _ _ _ _).alloc _
    · with_reducible first | exact set4_keep K5.out (Nat.le_refl _) _ _ _ _ | exact keep_alloc (set4_keep K5.out (Nat.le_refl _) _ _ _ _) _
  · clear HK
    go_wp2_with fail
    have HW3 : Aside0 (w0.heap.size ≤ w3.heap.size) := ⟨below_size T3.out.1⟩
    go_region_held2 (fun W' => W'.cell? ⟨1, 0, none⟩ = some (.slice (some ad) 13 cw) ∧ ∀ j, j < 13 → W'.cell? (ad.add j) = some (.string (wdB j))) ((first | exact GA.out _ (below_drew (below_alloc T3.out.1 _)) | exact GA.out _ T4.out.1 | exact GA.out _ (T4.out.1.setCell (p := ⟨w3.heap.size, 1, none⟩) HW3.out _))) ((go_at_call 76; (with_reducible refine (NX.out 10 _ ?t4 (by omega) (by omega)).mono ?_); (case t4 => exact T3.out.keep (by repeat (first | (with_reducible first | exact Below.refl _ _ | apply below_alloc | apply pw_below_drewN | apply below_drew1 | refine below_set ?_ (Nat.le_refl _)) | assumption))); rintro e w4 ⟨r4, hr4, rfl, h1, k1⟩; have T4 := Aside0.mk h1; have B6 : Aside0 (w4.heap[w3.heap.size]? = some (.cells #[.int .i64 2, .string ⟨#[]⟩, .int .i64 r3, .slice none 0 0] 42 (0, 0))) := ⟨k1.blk (heap_alloc_new _ _) (Nat.ne_of_gt (Tp.lt T3.out)) (by simp)⟩; have BX4 : Aside0 (w4.heap[W.heap.size]? = some (.cells #[.int .i64 0, .string ⟨#[]⟩, .int .i64 0, .slice none 0 0] 42 (0, 0))) := ⟨k1.blk ((al_old _ _ (blk_lt BX3.out)).trans BX3.out) (Nat.ne_of_gt GL.out) (by simp)⟩; have K4 : Aside0 (KeepBut W w4 g none) := ⟨K3.out.trans ((KeepBut.of_below (below_alloc (Below.refl _ w3) _) g none).trans k1 (.inl rfl)) (.inl rfl)⟩; have q2 := eq_true (show r4 < 13 by omega); have q0 := eq_true (show (0 : Int) ≤ (r4 : Int) by omega); have q1 := eq_true (show (r4 : Int) < 13 by omega); have R4 := Aside0.mk hr4; have z0 : w4.cell? ⟨W.heap.size, 0, none⟩ = some (.int .i64 0) := (blk_cell BX4.out 0).trans rfl; have z1 : w4.cell? ⟨W.heap.size, 1, none⟩ = some (.string ⟨#[]⟩) := (blk_cell BX4.out 1).trans rfl; have z2 : w4.cell? ⟨W.heap.size, 2, none⟩ = some (.int .i64 0) := (blk_cell BX4.out 2).trans rfl; have z3 : w4.cell? ⟨W.heap.size, 3, none⟩ = some (.slice none 0 0) := (blk_cell BX4.out 3).trans rfl; have y0 := blk_frozen BX4.out 0; have y1 := blk_frozen BX4.out 1; have y2 := blk_frozen BX4.out 2; have y3 := blk_frozen BX4.out 3; have hlw4 : W.heap.size < w4.heap.size := blk_lt BX4.out; have u0 : w4.cell? ⟨w3.heap.size, 0, none⟩ = some (.int .i64 2) := (blk_cell B6.out 0).trans rfl; have u1 : w4.cell? ⟨w3.heap.size, 1, none⟩ = some (.string ⟨#[]⟩) := (blk_cell B6.out 1).trans rfl; have u2 : w4.cell? ⟨w3.heap.size, 2, none⟩ = some (.int .i64 r3) := (blk_cell B6.out 2).trans rfl; have u3 : w4.cell? ⟨w3.heap.size, 3, none⟩ = some (.slice none 0 0) := (blk_cell B6.out 3).trans rfl; have v0 := blk_frozen B6.out 0; have v1 := blk_frozen B6.out 1; have v2 := blk_frozen B6.out 2; have v3 := blk_frozen B6.out 3; have hl6 : w3.heap.size < w4.heap.size := blk_lt B6.out; clear h1 k1 hr4))
    have GW3 : Aside0 (g < w3.heap.size ∧ W.heap.size < w3.heap.size) := ⟨⟨T3.out.lt, blk_lt BX3.out⟩⟩
    have T5 := Aside0.mk (T4.out.set HW3.out (Nat.ne_of_lt GW3.out.1) 1 (.string (wdB r4)))
    have K5 := Aside0.mk (keep_set K4.out (Nat.le_of_lt GW3.out.2) 1 (.string (wdB r4)))
    have BX5 := Aside0.mk (blk_far BX4.out (p := ⟨w3.heap.size, 1, none⟩) (Nat.ne_of_lt GW3.out.2) (.string (wdB r4)))
    have B65 : Aside0 ((w4.setCell ⟨w3.heap.size, 1, none⟩ (.string (wdB r4))).heap[w3.heap.size]? = some (.cells #[.int .i64 2, .string (wdB r4), .int .i64 r3, .slice none 0 0] 42 (0, 0))) := ⟨blk_put B6.out 1 _ rfl⟩
    clear z0 z1 z2 z3 y0 y1 y2 y3 u0 u1 u2 u3 v0 v1 v2 v3 q0 q1 q2 hl6 hlw4 B6 BX4 K4 T4
    generalize w4.setCell ⟨w3.heap.size, 1, none⟩ (.string (wdB r4)) = w5 at *
    have z0 : w5.cell? ⟨W.heap.size, 0, none⟩ = some (.int .i64 0) := (blk_cell BX5.out 0).trans rfl
    have z1 : w5.cell? ⟨W.heap.size, 1, none⟩ = some (.string ⟨#[]⟩) := (blk_cell BX5.out 1).trans rfl
    have z2 : w5.cell? ⟨W.heap.size, 2, none⟩ = some (.int .i64 0) := (blk_cell BX5.out 2).trans rfl
    have z3 : w5.cell? ⟨W.heap.size, 3, none⟩ = some (.slice none 0 0) := (blk_cell BX5.out 3).trans rfl
    have y0 := blk_frozen BX5.out 0
    have y1 := blk_frozen BX5.out 1
    have y2 := blk_frozen BX5.out 2
    have y3 := blk_frozen BX5.out 3
    have hlw5 : W.heap.size < w5.heap.size := blk_lt BX5.out
    have u0 : w5.cell? ⟨w3.heap.size, 0, none⟩ = some (.int .i64 2) := (blk_cell B65.out 0).trans rfl
    have u1 : w5.cell? ⟨w3.heap.size, 1, none⟩ = some (.string (wdB r4)) := (blk_cell B65.out 1).trans rfl
    have u2 : w5.cell? ⟨w3.heap.size, 2, none⟩ = some (.int .i64 r3) := (blk_cell B65.out 2).trans rfl
    have u3 : w5.cell? ⟨w3.heap.size, 3, none⟩ = some (.slice none 0 0) := (blk_cell B65.out 3).trans rfl
    have hl6 : w3.heap.size < w5.heap.size := blk_lt B65.out
    have HL5 := Aside0.mk hlw5
    go_wp2_with fail
    refine bodyPost_ret (results_cell_row rfl _ _ W.heap.size 42 #[.int .i64 2, .string (wdB r4), .int .i64 r3, .slice none 0 0] (0, 0) _ rfl ?hp Tryd.underlying42 rfl (by kernel_rfl)) rfl ?_
    case hp => first | (with_reducible exact box_set4 BX5.out _ _ _ _) | (rw [al_old _ _ (by simpa [World.setCell] using HL5.out)]; exact box_set4 BX5.out _ _ _ _)
    refine ⟨⟨2, (wdB r4), r3, []⟩, none, 0, rfl, made12 0 2 _ _ (by omega) (wdB_name r4 (by have := R4.out; omega)) (wdB_len r4), Nat.le_refl _, ?_, ?_, Foot.nil _ _⟩
    · with_reducible first | exact set4_tp T5.out HWW.out (Nat.ne_of_lt GL.out) _ _ _ _ | exact (set4_tp T5.out HWW.out (Nat.ne_of_lt GL.out) _ _ _ _).alloc _
    · with_reducible first | exact set4_keep K5.out (Nat.le_refl _) _ _ _ _ | exact keep_alloc (set4_keep K5.out (Nat.le_refl _) _ _ _ _) _
  · clear HK
    have z0 : w3.cell? ⟨W.heap.size, 0, none⟩ = some (.int .i64 0) := (blk_cell BX3.out 0).trans rfl
    have z1 : w3.cell? ⟨W.heap.size, 1, none⟩ = some (.string ⟨#[]⟩) := (blk_cell BX3.out 1).trans rfl
    have z2 : w3.cell? ⟨W.heap.size, 2, none⟩ = some (.int .i64 0) := (blk_cell BX3.out 2).trans rfl
    have z3 : w3.cell? ⟨W.heap.size, 3, none⟩ = some (.slice none 0 0) := (blk_cell BX3.out 3).trans rfl
    have y0 := blk_frozen BX3.out 0
    have y1 := blk_frozen BX3.out 1
    have y2 := blk_frozen BX3.out 2
    have y3 := blk_frozen BX3.out 3
    have hlw3 : W.heap.size < w3.heap.size := blk_lt BX3.out
    have HL3 := Aside0.mk hlw3
    go_wp2_with fail
    refine bodyPost_ret (results_cell_row rfl _ _ W.heap.size 42 #[.int .i64 3, .string ⟨#[]⟩, .int .i64 r3, .slice none 0 0] (0, 0) _ rfl ?hp Tryd.underlying42 rfl (by kernel_rfl)) rfl ?_
    case hp => first | (with_reducible exact box_set4 BX3.out _ _ _ _) | (rw [al_old _ _ (by simpa [World.setCell] using HL3.out)]; exact box_set4 BX3.out _ _ _ _)
    refine ⟨⟨3, ⟨#[]⟩, r3, []⟩, none, 0, rfl, made34 0 3 _ (by omega), Nat.le_refl _, ?_, ?_, Foot.nil _ _⟩
    · with_reducible first | exact set4_tp T3.out HWW.out (Nat.ne_of_lt GL.out) _ _ _ _ | exact (set4_tp T3.out HWW.out (Nat.ne_of_lt GL.out) _ _ _ _).alloc _
    · with_reducible first | exact set4_keep K3.out (Nat.le_refl _) _ _ _ _ | exact keep_alloc (set4_keep K3.out (Nat.le_refl _) _ _ _ _) _
  · clear HK
    have z0 : w3.cell? ⟨W.heap.size, 0, none⟩ = some (.int .i64 0) := (blk_cell BX3.out 0).trans rfl
    have z1 : w3.cell? ⟨W.heap.size, 1, none⟩ = some (.string ⟨#[]⟩) := (blk_cell BX3.out 1).trans rfl
    have z2 : w3.cell? ⟨W.heap.size, 2, none⟩ = some (.int .i64 0) := (blk_cell BX3.out 2).trans rfl
    have z3 : w3.cell? ⟨W.heap.size, 3, none⟩ = some (.slice none 0 0) := (blk_cell BX3.out 3).trans rfl
    have y0 := blk_frozen BX3.out 0
    have y1 := blk_frozen BX3.out 1
    have y2 := blk_frozen BX3.out 2
    have y3 := blk_frozen BX3.out 3
    have hlw3 : W.heap.size < w3.heap.size := blk_lt BX3.out
    have HL3 := Aside0.mk hlw3
    go_wp2_with fail
    refine bodyPost_ret (results_cell_row rfl _ _ W.heap.size 42 #[.int .i64 4, .string ⟨#[]⟩, .int .i64 r3, .slice none 0 0] (0, 0) _ rfl ?hp Tryd.underlying42 rfl (by kernel_rfl)) rfl ?_
    case hp => first | (with_reducible exact box_set4 BX3.out _ _ _ _) | (rw [al_old _ _ (by simpa [World.setCell] using HL3.out)]; exact box_set4 BX3.out _ _ _ _)
    refine ⟨⟨4, ⟨#[]⟩, r3, []⟩, none, 0, rfl, made34 0 4 _ (by omega), Nat.le_refl _, ?_, ?_, Foot.nil _ _⟩
    · with_reducible first | exact set4_tp T3.out HWW.out (Nat.ne_of_lt GL.out) _ _ _ _ | exact (set4_tp T3.out HWW.out (Nat.ne_of_lt GL.out) _ _ _ _).alloc _
    · with_reducible first | exact set4_keep K3.out (Nat.le_refl _) _ _ _ _ | exact keep_alloc (set4_keep K3.out (Nat.le_refl _) _ _ _ _) _
end
end Go.Proofs.YtajefkjcfmfjkaaDoor
namespace Go.Proofs.YtajefkjcfmfjkaaDoor
section
set_option linter.unusedVariables false
set_option linter.unusedSimpArgs false
set_option linter.deprecated false
open Go.RowKit Go.Proofs.YtajefkjcfmfjkaaDoorW.PrintWords Go.Proofs.YtajefkjcfmfjkaaDoor.PRawForms
set_option linter.unusedVariables false
theorem tree_run (W : World) (base ty n : Nat) (v : Value) (xs : List Value) (c0 c1 c2 c3 : Value) (HO : W.ownsRow base 42 4 v n xs) (hbase : base ≤ W.heap.size) (hn : n ≤ 100000000)
    (h1 : c0.oneCell' = true ∧ c1.oneCell' = true ∧ c2.oneCell' = true ∧ c3.oneCell' = true) :
    ∃ v1 w1, (Builtin.append_ #[40, 40] ty #[v, .slice (some ⟨W.heap.size, 0, none⟩) 1 1]).run Tryd.prog (W.alloc (.cells #[c0, c1, c2, c3] 42)) = .ok v1 w1 ∧ w1.ownsRow base 42 4 v1 (n + 1) (xs ++ [c0, c1, c2, c3]) ∧ W.grownBy w1 v.ownBlock ∧ (v1.ownBlock = v.ownBlock ∨ ∃ b, v1.ownBlock = some b ∧ W.heap.size ≤ b) := by
  obtain ⟨i0, hi, hz0, hz1, hz2⟩ := info_parts info42
  obtain ⟨v1, w1, hr, hown, hg, _, hat⟩ := run_append_own_at (P := Tryd.prog) (W.alloc (.cells #[c0, c1, c2, c3] 42)) base 40 ty 42 i0 _ 4 _ Tryd.underlying40 hi hz0 hz1 hz2 rfl (by decide) v n xs (HO.alloc _) ⟨W.heap.size, 0, none⟩ 1 1 [c0, c1, c2, c3]
    rfl (World.news_of_block (cs := #[c0, c1, c2, c3]) (t := 42) (fr := (0, 0)) (heap_alloc_new W _)) (by simpa using h1) (by simp only [maxLen]; omega) (by omega) (by simp; omega)
  refine ⟨v1, w1, hr, hown, World.grownBy.trans (World.grownBy_alloc W _ _) hg, ?_⟩
  rcases hat with hat | hat
  · exact .inl hat
  · exact .inr ⟨_, hat, by simp⟩
section
variable {ops : Array Oper} {o : Oper} {a : Act} {Q : Exit → Act → World → Prop} {K : Act → World → Prop} {W : World}
/-- append of a tree, in a region that draws its order -/
theorem ts_tree (hw : Region.wanted o (yielded ops a.tmps) = true) (s x : Operand) (ho : o.op = .call { callee := .builtin .append, args := #[s, x], argTypes := #[40, 40] }) (base n : Nat) (v : Value) (xs : List Value) (c0 c1 c2 c3 : Value) (hs : a.eval s = v) (hx : a.eval x = .slice (some ⟨W.heap.size, 0, none⟩) 1 1)
    (HO : W.ownsRow base 42 4 v n xs) (hbase : base ≤ W.heap.size) (hn : n ≤ 100000000) (h1 : c0.oneCell' = true ∧ c1.oneCell' = true ∧ c2.oneCell' = true ∧ c3.oneCell' = true)
    (h : ∀ v1 w1, w1.ownsRow base 42 4 v1 (n + 1) (xs ++ [c0, c1, c2, c3]) → W.grownBy w1 v.ownBlock → (v1.ownBlock = v.ownBlock ∨ ∃ b, v1.ownBlock = some b ∧ W.heap.size ≤ b) → K (a.put o.dst v1) w1) :
    if Region.wanted o (yielded ops a.tmps) = true then Oper.wp Tryd.prog o a (W.alloc (.cells #[c0, c1, c2, c3] 42)) K Q else K (a.put o.dst undef) (W.alloc (.cells #[c0, c1, c2, c3] 42)) := by
  obtain ⟨v1, w1, hr, h2, h3, h4⟩ := tree_run W base o.type n v xs c0 c1 c2 c3 HO hbase hn h1
  rw [if_pos hw]
  unfold Oper.wp execOp
  simp only [ho, resolve, invoke, builtin, Sem.run_bind, Sem.run_pure, Result.andThen_ok, List.map_toArray, List.map_cons, List.map_nil, hs, hx, hr]
  exact h v1 w1 h2 h3 h4
end
/-- a row of its own that holds one tree, and two: as it is read -/
theorem own_tree1 {W : World} {base : Nat} {v : Value} {c0 c1 c2 c3 : Value} (h : W.ownsRow base 42 4 v 1 [c0, c1, c2, c3]) :
    ∃ B c cur, v = .slice (some ⟨B, 0, none⟩) 1 c ∧ 1 ≤ c ∧ base ≤ B ∧ W.heap[B]? = some (.cells cur 42 (0, 0)) ∧ cur.toList.take 4 = [c0, c1, c2, c3] := by
  obtain ⟨_, ⟨_, h0⟩ | ⟨g, cap, cur, rfl, h1, h2, h3, _, h4, h5⟩⟩ := h
  · omega
  · exact ⟨g, cap, cur, rfl, h3, h1, h2, h5⟩
theorem own_tree2 {W : World} {base : Nat} {v : Value} {xs : List Value} (h : W.ownsRow base 42 4 v 2 xs) :
    ∃ B c cur, v = .slice (some ⟨B, 0, none⟩) 2 c ∧ 2 ≤ c ∧ base ≤ B ∧ W.heap[B]? = some (.cells cur 42 (0, 0)) ∧ cur.toList.take 8 = xs := by
  obtain ⟨_, ⟨_, h0⟩ | ⟨g, cap, cur, rfl, h1, h2, h3, _, h4, h5⟩⟩ := h
  · omega
  · exact ⟨g, cap, cur, rfl, h3, h1, h2, h5⟩
theorem take_get {cur : Array Value} {n : Nat} {xs : List Value} (h : cur.toList.take n = xs) {i : Nat} (hi : i < n) : cur[i]? = xs[i]? := by
  rw [← h, List.getElem?_take, if_pos hi]; simp
theorem k42_T1 {w : World} {B : Nat} {cur : Array Value} {x : S42} {A : Option Addr} {c : Nat} (hb : w.heap[B]? = some (.cells cur 42 (0, 0))) (ht : cur.toList.take 4 = [.int .i64 x.f0, .string x.f1, .int .i64 x.f2, .slice A x.f3.length c]) (hc : x.f3.length ≤ c) (hC : Kd.C k42 w A x.f3.length x.f3) :
    Kd.C k42 w (some ⟨B, 0, none⟩) 1 [x] := by
  refine ⟨rfl, by omega, fun _ => ⟨_, rfl, fun j p hj => ?_⟩⟩
  match j, hj with
  | 0, hj =>
    obtain rfl : x = p := by simpa using hj
    refine ⟨_, rfl, k42_mk w x hc hC, fun i u hu => ?_⟩
    have e : (⟨B, 0, none⟩ : Addr).add (0 * k42.sz + i) = ⟨B, i, none⟩ := by rw [Nat.zero_mul, Nat.zero_add, add_nat42]
    have hi : i < 4 := by have := (List.getElem?_eq_some_iff.1 hu).1; simpa using this
    rw [e, blk_cell hb i, take_get ht hi]
    exact hu
theorem k42_T2 {w : World} {B : Nat} {cur : Array Value} {x y : S42} {A A' : Option Addr} {c c' : Nat} (hb : w.heap[B]? = some (.cells cur 42 (0, 0))) (ht : cur.toList.take 8 = [.int .i64 x.f0, .string x.f1, .int .i64 x.f2, .slice A x.f3.length c] ++ [.int .i64 y.f0, .string y.f1, .int .i64 y.f2, .slice A' y.f3.length c']) (hc : x.f3.length ≤ c) (hC : Kd.C k42 w A x.f3.length x.f3) (hc' : y.f3.length ≤ c') (hC' : Kd.C k42 w A' y.f3.length y.f3) :
    Kd.C k42 w (some ⟨B, 0, none⟩) 2 [x, y] := by
  refine ⟨rfl, by omega, fun _ => ⟨_, rfl, fun j p hj => ?_⟩⟩
  match j, hj with
  | 0, hj =>
    obtain rfl : x = p := by simpa using hj
    refine ⟨_, rfl, k42_mk w x hc hC, fun i u hu => ?_⟩
    have e : (⟨B, 0, none⟩ : Addr).add (0 * k42.sz + i) = ⟨B, i, none⟩ := by rw [Nat.zero_mul, Nat.zero_add, add_nat42]
    have hi : i < 4 := by have := (List.getElem?_eq_some_iff.1 hu).1; simpa using this
    rw [e, blk_cell hb i, take_get ht (by omega), List.getElem?_append_left (by simpa using hi)]
    exact hu
  | 1, hj =>
    obtain rfl : y = p := by simpa using hj
    refine ⟨_, rfl, k42_mk w y hc' hC', fun i u hu => ?_⟩
    have e : (⟨B, 0, none⟩ : Addr).add (1 * k42.sz + i) = ⟨B, 4 + i, none⟩ := by rw [add_nat42]; rfl
    have hi : i < 4 := by have := (List.getElem?_eq_some_iff.1 hu).1; simpa using this
    rw [e, blk_cell hb (4 + i), take_get ht (by omega), List.getElem?_append_right (by simp)]
    simpa using hu
end
end Go.Proofs.YtajefkjcfmfjkaaDoor
namespace Go.Proofs.YtajefkjcfmfjkaaDoor
section
set_option linter.unusedVariables false
set_option linter.unusedSimpArgs false
set_option linter.deprecated false
open Go.RowKit Go.Proofs.YtajefkjcfmfjkaaDoorW.PrintWords Go.Proofs.YtajefkjcfmfjkaaDoor.PRawForms
set_option linter.unusedVariables false
/-- a node and where its own row lies -/
structure Nd where
  t : S42
  A : Option Addr
  c : Nat
def Nd.cs (d : Nd) : List Value := [.int .i64 d.t.f0, .string d.t.f1, .int .i64 d.t.f2, .slice d.A d.t.f3.length d.c]
def Nd.ok (W : World) (d : Nd) : Prop := d.t.f3.length ≤ d.c ∧ Kd.C k42 W d.A d.t.f3.length d.t.f3
def ndCs : List Nd → List Value
  | [] => []
  | d :: ds => d.cs ++ ndCs ds
theorem ndCs_len (ds : List Nd) : (ndCs ds).length = ds.length * 4 := by
  induction ds with
  | nil => rfl
  | cons d ds ih => rw [ndCs, List.length_append, ih]; simp [Nd.cs]; omega
theorem ndCs_app (a b : List Nd) : ndCs (a ++ b) = ndCs a ++ ndCs b := by
  induction a with
  | nil => rfl
  | cons d ds ih => rw [List.cons_append, ndCs, ndCs, ih, List.append_assoc]
theorem ndCs_get (ds : List Nd) (j : Nat) (d : Nd) (h : ds[j]? = some d) (i : Nat) (hi : i < 4) : (ndCs ds)[j * 4 + i]? = d.cs[i]? := by
  induction ds generalizing j with
  | nil => simp at h
  | cons e es ih =>
    rw [ndCs]
    cases j with
    | zero =>
      obtain rfl : e = d := by simpa using h
      rw [Nat.zero_mul, Nat.zero_add, List.getElem?_append_left (by simpa [Nd.cs] using hi)]
    | succ j =>
      rw [List.getElem?_append_right (by simp [Nd.cs]; omega)]
      have e1 : (j + 1) * 4 + i - e.cs.length = j * 4 + i := by simp [Nd.cs]; omega
      rw [e1]
      exact ih j (by simpa using h)
/-- a readable row of trees is such a list -/
theorem nd_of {W : World} {A : Option Addr} {n : Nat} {xs : List S42} (h : Kd.C k42 W A n xs) :
    ∃ ds : List Nd, ds.map Nd.t = xs ∧ (∀ d ∈ ds, d.ok W) ∧ (0 < n → ∃ ad, A = some ad ∧ ∀ j u, (ndCs ds)[j]? = some u → W.cell? (ad.add j) = some u) := by
  have hlen := Kd.C_len h
  have hat : ∀ k, k < n → ∃ A3 c3, ∃ ad, A = some ad ∧ (Nd.mk (rd_T42 xs k) A3 c3).ok W ∧ ∀ i u, (Nd.mk (rd_T42 xs k) A3 c3).cs[i]? = some u → W.cell? (ad.add (k * 4 + i)) = some u := by
    intro k hk
    obtain ⟨ad, c, e, hs, hK, hc0⟩ := Kd.C_get h z42 (k : Int) (by omega) (by omega)
    rw [Int.toNat_natCast] at hK hc0
    obtain ⟨A3, c3, rfl, l3, g3⟩ := k42_open hK
    refine ⟨A3, c3, ad, e, ⟨l3, g3⟩, fun i u hu => hc0 i u hu⟩
  have step : ∀ m, m ≤ n → ∃ ds : List Nd, ds.map Nd.t = xs.take m ∧ (∀ d ∈ ds, d.ok W) ∧ ∀ j d, ds[j]? = some d → ∃ ad, A = some ad ∧ ∀ i u, d.cs[i]? = some u → W.cell? (ad.add (j * 4 + i)) = some u := by
    intro m
    induction m with
    | zero => intro _; exact ⟨[], by simp, by simp, by simp⟩
    | succ m ih =>
      intro hm
      obtain ⟨ds, h1, h2, h3⟩ := ih (by omega)
      obtain ⟨A3, c3, ad, e, h4, h5⟩ := hat m (by omega)
      have hl : ds.length = m := by
        have := congrArg List.length h1
        rw [List.length_map, List.length_take] at this
        omega
      refine ⟨ds ++ [⟨rd_T42 xs m, A3, c3⟩], ?_, ?_, ?_⟩
      · rw [List.map_append, h1, List.take_add_one, rdT_get (by omega : m < xs.length), List.getElem?_eq_getElem (by omega : m < xs.length)]
        rfl
      · intro d hd
        rcases List.mem_append.1 hd with hd | hd
        · exact h2 d hd
        · obtain rfl : d = _ := by simpa using hd
          exact h4
      · intro j d hj
        rcases Nat.lt_or_ge j m with hlt | hge
        · rw [List.getElem?_append_left (by omega)] at hj
          exact h3 j d hj
        · rw [List.getElem?_append_right (by omega), hl] at hj
          have : j = m := by
            have := (List.getElem?_eq_some_iff.1 hj).1
            simp at this
            omega
          subst this
          simp at hj
          subst hj
          exact ⟨ad, e, h5⟩
  obtain ⟨ds, h1, h2, h3⟩ := step n (Nat.le_refl _)
  rw [List.take_of_length_le (by omega)] at h1
  have hl : ds.length = n := by rw [← hlen, ← h1, List.length_map]
  refine ⟨ds, h1, h2, fun hn => ?_⟩
  obtain ⟨_, _, ad, e, _, _⟩ := hat 0 hn
  refine ⟨ad, e, fun j u hj => ?_⟩
  have hj4 : j < n * 4 := by
    have := (List.getElem?_eq_some_iff.1 hj).1
    rw [ndCs_len, hl] at this
    exact this
  have hd : j / 4 < ds.length := by omega
  obtain ⟨ad', e', h6⟩ := h3 (j / 4) ds[j / 4] (List.getElem?_eq_getElem hd)
  obtain rfl := Option.some.inj (e.symm.trans e')
  have h7 := ndCs_get ds (j / 4) ds[j / 4] (List.getElem?_eq_getElem hd) (j % 4) (by omega)
  rw [show j / 4 * 4 + j % 4 = j by omega, hj] at h7
  have := h6 (j % 4) u h7.symm
  rwa [show j / 4 * 4 + j % 4 = j by omega] at this
end
end Go.Proofs.YtajefkjcfmfjkaaDoor
namespace Go.Proofs.YtajefkjcfmfjkaaDoor
section
set_option linter.unusedVariables false
set_option linter.unusedSimpArgs false
set_option linter.deprecated false
open Go.RowKit Go.Proofs.YtajefkjcfmfjkaaDoorW.PrintWords Go.Proofs.YtajefkjcfmfjkaaDoor.PRawForms
set_option linter.unusedVariables false
theorem nd_drop (ds : List Nd) : ndCs (ds.drop 1) = (ndCs ds).drop 4 := by
  cases ds with
  | nil => rfl
  | cons d ds => simp [ndCs, Nd.cs]
theorem szL_map_set (ds : List Nd) (i : Nat) (d : Nd) (hi : i < ds.length) (h : szT d.t ≤ szT ds[i].t + 1) : szL ((ds.set i d).map Nd.t) ≤ szL (ds.map Nd.t) + 1 := by
  induction ds generalizing i with
  | nil => simp at hi
  | cons e es ih =>
    cases i with
    | zero => simp only [List.set_cons_zero, List.map_cons, szL]; simp only [List.getElem_cons_zero] at h; omega
    | succ i =>
      simp only [List.set_cons_succ, List.map_cons, szL]
      have := ih i (by simpa using hi) (by simpa using h)
      omega
theorem nmL_map_set (ds : List Nd) (i : Nat) (d : Nd) (h : nmT d.t = true) (hl : nmL (ds.map Nd.t) = true) : nmL ((ds.set i d).map Nd.t) = true := by
  rw [nmL_all] at hl ⊢
  rw [List.all_eq_true] at hl ⊢
  intro x hx
  obtain ⟨e, he, rfl⟩ := List.mem_map.1 hx
  rcases List.mem_or_eq_of_mem_set he with he | rfl
  · exact hl _ (List.mem_map_of_mem he)
  · exact h
end
end Go.Proofs.YtajefkjcfmfjkaaDoor
namespace Go.Proofs.YtajefkjcfmfjkaaDoor
section
set_option linter.unusedVariables false
set_option linter.unusedSimpArgs false
set_option linter.deprecated false
open Go.RowKit Go.Proofs.YtajefkjcfmfjkaaDoorW.PrintWords Go.Proofs.YtajefkjcfmfjkaaDoor.PRawForms
set_option linter.unusedVariables false
theorem ndCs_one (ds : List Nd) : ∀ u ∈ ndCs ds, u.oneCell' = true := by
  induction ds with
  | nil => simp [ndCs]
  | cons d ds ih =>
    intro u hu
    rw [ndCs] at hu
    rcases List.mem_append.1 hu with hu | hu
    · simp only [Nd.cs, List.mem_cons, List.not_mem_nil, or_false] at hu
      rcases hu with rfl | rfl | rfl | rfl <;> rfl
    · exact ih u hu
theorem copy_run (W : World) (ty n c : Nat) (A : Option Addr) (ds : List Nd) (hl : ds.length = n) (hn : n ≤ 100000000) (hc : 0 < n → ∃ ad, A = some ad ∧ ∀ j u, (ndCs ds)[j]? = some u → W.cell? (ad.add j) = some u) :
    ∃ v1 w1, (Builtin.append_ #[40, 40] ty #[.slice none 0 0, .slice A n c]).run Tryd.prog W = .ok v1 w1 ∧ w1.ownsRow W.heap.size 42 4 v1 n (ndCs ds) ∧ W.grownBy w1 none ∧ (v1.ownBlock = none ∨ v1.ownBlock = some W.heap.size) := by
  obtain ⟨i0, hi, hz0, hz1, hz2⟩ := info_parts info42
  have HO : W.ownsRow W.heap.size 42 4 (.slice none 0 0) 0 [] := ⟨rfl, .inl ⟨rfl, rfl⟩⟩
  rcases A with _ | ad
  · have hn0 : n = 0 := by
      rcases Nat.eq_zero_or_pos n with h | h
      · exact h
      · obtain ⟨ad, h, _⟩ := hc h
        cases h
    obtain rfl : ds = [] := List.eq_nil_of_length_eq_zero (by omega)
    subst hn0
    refine ⟨.slice none 0 0, W, ?_, HO, World.grownBy.refl W _, .inl rfl⟩
    simp [Builtin.append_, run_underlying Tryd.underlying40, sizeOf, typeInfo, hi, Builtin.lenOf, Builtin.firstCells]
  · have hcells : ∀ j u, (ndCs ds)[j]? = some u → W.cell? (ad.add j) = some u := by
      intro j u hu
      have hp : 0 < n := by
        have := (List.getElem?_eq_some_iff.1 hu).1
        rw [ndCs_len] at this
        omega
      obtain ⟨ad', h', hh⟩ := hc hp
      obtain rfl := Option.some.inj h'
      exact hh j u hu
    obtain ⟨v1, w1, hr, h2, h3, _, h5⟩ := run_append_own_at (P := Tryd.prog) W W.heap.size 40 ty 42 i0 _ 4 _ Tryd.underlying40 hi hz0 hz1 hz2 rfl (by decide) (.slice none 0 0) 0 [] HO ad n c (ndCs ds) (by rw [ndCs_len, hl]) hcells (ndCs_one ds) (by simp only [maxLen]; omega) (by omega) (Nat.le_refl _)
    rw [Nat.zero_add, List.nil_append] at h2
    exact ⟨v1, w1, hr, h2, h3, h5⟩
section
variable {ops : Array Oper} {o : Oper} {a : Act} {Q : Exit → Act → World → Prop} {K : Act → World → Prop} {W : World}
/-- the copy, in a region that draws its order -/
theorem ts_copy (hw : Region.wanted o (yielded ops a.tmps) = true) (s x : Operand) (ho : o.op = .call { callee := .builtin .append, args := #[s, x], argTypes := #[40, 40] }) (n c : Nat) (A : Option Addr) (ds : List Nd) (hs : a.eval s = .slice none 0 0) (hx : a.eval x = .slice A n c)
    (hl : ds.length = n) (hn : n ≤ 100000000) (hc : 0 < n → ∃ ad, A = some ad ∧ ∀ j u, (ndCs ds)[j]? = some u → W.cell? (ad.add j) = some u)
    (h : ∀ v1 w1, w1.ownsRow W.heap.size 42 4 v1 n (ndCs ds) → W.grownBy w1 none → (v1.ownBlock = none ∨ v1.ownBlock = some W.heap.size) → K (a.put o.dst v1) w1) :
    if Region.wanted o (yielded ops a.tmps) = true then Oper.wp Tryd.prog o a W K Q else K (a.put o.dst undef) W := by
  obtain ⟨v1, w1, hr, h2, h3, h4⟩ := copy_run W o.type n c A ds hl hn hc
  rw [if_pos hw]
  unfold Oper.wp execOp
  simp only [ho, resolve, invoke, builtin, Sem.run_bind, Sem.run_pure, Result.andThen_ok, List.map_toArray, List.map_cons, List.map_nil, hs, hx, hr]
  exact h v1 w1 h2 h3 h4
end
end
end Go.Proofs.YtajefkjcfmfjkaaDoor
namespace Go.Proofs.YtajefkjcfmfjkaaDoor
section
set_option linter.unusedVariables false
set_option linter.unusedSimpArgs false
set_option linter.deprecated false
open Go.RowKit Go.Proofs.YtajefkjcfmfjkaaDoorW.PrintWords Go.Proofs.YtajefkjcfmfjkaaDoor.PRawForms
set_option linter.unusedVariables false
inductive RowF (P : Nat → Prop) (w : World) : Option Addr → List S42 → Prop
  | mk (A : Option Addr) (ds : List Nd) (hl : ds.length ≤ 9223372036854775807)
      (hc : 0 < ds.length → ∃ ad, A = some ad ∧ P ad.block ∧ ∀ j u, (ndCs ds)[j]? = some u → w.cell? (ad.add j) = some u)
      (hk : ∀ d ∈ ds, d.t.f3.length ≤ d.c) (hr : ∀ d ∈ ds, RowF P w d.A d.t.f3) : RowF P w A (ds.map Nd.t)
theorem RowF.inv {P : Nat → Prop} {w : World} {A : Option Addr} {l : List S42} (h : RowF P w A l) :
    ∃ ds : List Nd, ds.map Nd.t = l ∧ ds.length ≤ 9223372036854775807 ∧ (0 < ds.length → ∃ ad, A = some ad ∧ P ad.block ∧ ∀ j u, (ndCs ds)[j]? = some u → w.cell? (ad.add j) = some u) ∧ ∀ d ∈ ds, d.t.f3.length ≤ d.c ∧ RowF P w d.A d.t.f3 := by
  cases h with
  | mk A ds hl hc hk hr => exact ⟨ds, rfl, hl, hc, fun d hd => ⟨hk d hd, hr d hd⟩⟩
theorem add_block (a : Addr) (j : Nat) : (a.add j).block = a.block := by unfold Addr.add; split <;> rfl
theorem cell_heap {w w' : World} {a : Addr} (h : w'.heap[a.block]? = w.heap[a.block]?) : w'.cell? a = w.cell? a := by unfold World.cell?; rw [h]
theorem RowF.nil (P : Nat → Prop) (w : World) (A : Option Addr) : RowF P w A [] := RowF.mk A [] (by simp) (fun h => absurd h (by simp)) (by simp) (by simp)
theorem ndCs_ne {ds : List Nd} (h : 0 < ds.length) : ∃ u, (ndCs ds)[0]? = some u := by
  have : 0 < (ndCs ds).length := by rw [ndCs_len]; omega
  exact ⟨_, List.getElem?_eq_getElem this⟩
theorem RowF.step {P : Nat → Prop} {w w' : World} {A : Option Addr} {l : List S42} (h : RowF P w A l) (hk : ∀ k, P k → k < w.heap.size → w'.heap[k]? = w.heap[k]?) : RowF P w' A l := by
  induction h with
  | mk A ds hl hc hk' hr ih =>
    refine RowF.mk A ds hl (fun hp => ?_) hk' ih
    obtain ⟨ad, e, hP, hh⟩ := hc hp
    obtain ⟨u0, h0⟩ := ndCs_ne hp
    have hlt := World.block_lt_of_cell? w _ (hh 0 u0 h0)
    rw [add_block] at hlt
    refine ⟨ad, e, hP, fun j u hu => ?_⟩
    rw [cell_heap (w := w) (by rw [add_block]; exact hk _ hP hlt)]
    exact hh j u hu
theorem RowF.mono {P Q : Nat → Prop} {w : World} {A : Option Addr} {l : List S42} (h : RowF P w A l) (hPQ : ∀ k, P k → Q k) : RowF Q w A l := by
  induction h with
  | mk A ds hl hc hk hr ih =>
    refine RowF.mk A ds hl (fun hp => ?_) hk ih
    obtain ⟨ad, e, hP, hh⟩ := hc hp
    exact ⟨ad, e, hPQ _ hP, hh⟩
theorem nd_toC {w : World} {ad : Addr} {ds : List Nd} (hok : ∀ d ∈ ds, d.ok w) (hl : ds.length ≤ 9223372036854775807) (hc : ∀ j u, (ndCs ds)[j]? = some u → w.cell? (ad.add j) = some u) :
    Kd.C k42 w (some ad) (ds.map Nd.t).length (ds.map Nd.t) := by
  refine ⟨rfl, by rw [List.length_map]; omega, fun _ => ⟨_, rfl, fun j p hj => ?_⟩⟩
  rw [List.getElem?_map] at hj
  obtain ⟨d, hd, rfl⟩ := Option.map_eq_some_iff.1 hj
  have hm := List.mem_of_getElem? hd
  refine ⟨_, rfl, k42_mk w d.t (hok d hm).1 (hok d hm).2, fun i u hu => ?_⟩
  have hi : i < 4 := by have := (List.getElem?_eq_some_iff.1 hu).1; simpa using this
  have h7 := ndCs_get ds j d hd i hi
  exact hc (j * 4 + i) u (h7.trans hu)
theorem RowF.toC {P : Nat → Prop} {w : World} {A : Option Addr} {l : List S42} (h : RowF P w A l) : Kd.C k42 w A l.length l := by
  induction h with
  | mk A ds hl hc hk hr ih =>
    rcases Nat.eq_zero_or_pos ds.length with h0 | hp
    · obtain rfl : ds = [] := List.eq_nil_of_length_eq_zero h0
      exact ⟨rfl, by simp, fun h => absurd h (by simp)⟩
    · obtain ⟨ad, rfl, _, hh⟩ := hc hp
      exact nd_toC (fun d hd => ⟨hk d hd, ih d hd⟩) hl hh
theorem RowF.ofC (w : World) (i : Nat) : ∀ (A : Option Addr) (l : List S42), szL l ≤ i → Kd.C k42 w A l.length l → RowF (fun k => k < w.heap.size) w A l := by
  induction i with
  | zero =>
    intro A l h hC
    have := szL_len l
    obtain rfl : l = [] := List.eq_nil_of_length_eq_zero (by omega)
    exact RowF.nil _ _ _
  | succ i ih =>
    intro A l h hC
    obtain ⟨ds, rfl, hok, hc⟩ := nd_of hC
    have hl : ds.length ≤ 9223372036854775807 := by have := hC.2.1; rw [List.length_map] at this; exact this
    refine RowF.mk A ds hl (fun hp => ?_) (fun d hd => (hok d hd).1) (fun d hd => ?_)
    · obtain ⟨ad, e, hh⟩ := hc (by rw [List.length_map]; exact hp)
      obtain ⟨u0, h0⟩ := ndCs_ne hp
      have hlt := World.block_lt_of_cell? w _ (hh 0 u0 h0)
      rw [add_block] at hlt
      exact ⟨ad, e, hlt, hh⟩
    · have h1 := szL_mem (List.mem_map_of_mem (f := Nd.t) hd)
      have h2 := szT_eq d.t
      exact ih d.A d.t.f3 (by omega) (hok d hd).2
theorem RowF.keep {P : Nat → Prop} {w w' : World} {A : Option Addr} {l : List S42} (h : RowF P w A l) (hb : Below w.heap.size w w') : RowF P w' A l := h.step fun k _ hk => hb.block k hk
/-- a row of its own is such a row -/
theorem own_rowF {Q : Nat → Prop} {base n c : Nat} {w : World} {A : Option Addr} {ds : List Nd} (h : w.ownsRow base 42 4 (.slice A n c) n (ndCs ds)) (hl : ds.length = n) (hb : ∀ k, base ≤ k → Q k) (hn : n ≤ 1000000) (hok : ∀ d ∈ ds, d.t.f3.length ≤ d.c ∧ RowF Q w d.A d.t.f3) :
    RowF Q w A (ds.map Nd.t) ∧ n ≤ c := by
  obtain ⟨_, ⟨hv, h0⟩ | ⟨g, cap, cur, hv, h1, h2, h3, _, h4, h5⟩⟩ := h
  · injection hv with e1 e2 e3
    subst e1 e2 e3
    obtain rfl : ds = [] := List.eq_nil_of_length_eq_zero (by omega)
    exact ⟨RowF.nil _ _ _, Nat.le_refl _⟩
  · injection hv with e1 e2 e3
    subst e1 e3
    refine ⟨RowF.mk _ ds (by omega) (fun _ => ⟨_, rfl, hb g h1, fun j u hu => ?_⟩) (fun d hd => (hok d hd).1) (fun d hd => (hok d hd).2), h3⟩
    have hj : j < n * 4 := by
      have := (List.getElem?_eq_some_iff.1 hu).1
      rw [ndCs_len, hl] at this
      exact this
    rw [add_plain, blk_cell h2 j, take_get h5 hj]
    exact hu
/-- the same without its first element -/
theorem drop_rowF {Q : Nat → Prop} {base n c : Nat} {w : World} {A : Option Addr} {ds : List Nd} (h : w.ownsRow base 42 4 (.slice A n c) n (ndCs ds)) (hl : ds.length = n) (hb : ∀ k, base ≤ k → Q k) (hn : n ≤ 1000000) (hok : ∀ d ∈ ds, d.t.f3.length ≤ d.c ∧ RowF Q w d.A d.t.f3) :
    RowF Q w (A.map fun x => ⟨x.block, x.off + 4, none⟩) ((ds.drop 1).map Nd.t) := by
  obtain ⟨_, ⟨hv, h0⟩ | ⟨g, cap, cur, hv, h1, h2, h3, _, h4, h5⟩⟩ := h
  · injection hv with e1 e2 e3
    subst e1 e2 e3
    obtain rfl : ds = [] := List.eq_nil_of_length_eq_zero (by omega)
    exact RowF.nil _ _ _
  · injection hv with e1 e2 e3
    subst e1 e3
    refine RowF.mk _ (ds.drop 1) (by rw [List.length_drop]; omega) (fun _ => ⟨_, rfl, hb g h1, fun j u hu => ?_⟩) (fun d hd => (hok d (List.mem_of_mem_drop hd)).1) (fun d hd => (hok d (List.mem_of_mem_drop hd)).2)
    rw [nd_drop, List.getElem?_drop] at hu
    have hj : 4 + j < n * 4 := by
      have := (List.getElem?_eq_some_iff.1 hu).1
      rw [ndCs_len, hl] at this
      exact this
    have e : (⟨g, 0 + 4, none⟩ : Addr).add j = ⟨g, 4 + j, none⟩ := by rw [Addr.add_plain2]
    rw [e, blk_cell h2, take_get h5 hj]
    exact hu
end
end Go.Proofs.YtajefkjcfmfjkaaDoor
namespace Go.Proofs.YtajefkjcfmfjkaaDoor
section
set_option linter.unusedVariables false
set_option linter.unusedSimpArgs false
set_option linter.deprecated false
open Go.RowKit Go.Proofs.YtajefkjcfmfjkaaDoorW.PrintWords Go.Proofs.YtajefkjcfmfjkaaDoor.PRawForms
set_option linter.unusedVariables false
attribute [local go_sem ↓] Go.wp_at_zero Go.wp_at_succ
theorem cells4h {w : World} {b : Nat} {c0 c1 c2 c3 : Value} (h : w.heap[b]? = some (.cells #[c0, c1, c2, c3] 42 (0, 0))) :
    w.cell? ⟨b, 0, none⟩ = some c0 ∧ w.cell? ⟨b, 1, none⟩ = some c1 ∧ w.cell? ⟨b, 2, none⟩ = some c2 ∧ w.cell? ⟨b, 3, none⟩ = some c3 :=
  ⟨(blk_cell h 0).trans rfl, (blk_cell h 1).trans rfl, (blk_cell h 2).trans rfl, (blk_cell h 3).trans rfl⟩
theorem set4_blk {w : World} {b b' : Nat} {cs : Array Value} {ty : TypeId} (h : w.heap[b]? = some (.cells cs ty (0, 0))) (hne : b ≠ b') (v0 v1 v2 v3 : Value) :
    ((((w.setCell ⟨b', 0, none⟩ v0).setCell ⟨b', 1, none⟩ v1).setCell ⟨b', 2, none⟩ v2).setCell ⟨b', 3, none⟩ v3).heap[b]? = some (.cells cs ty (0, 0)) :=
  blk_far (blk_far (blk_far (blk_far h hne _) hne _) hne _) hne _
theorem cut_ex (x n : Int) (w : World) (h0 : 0 < n) (h1 : n ≤ 1000000) : Calls Tryd.prog 27 #[.int .i64 x, .int .i64 n] w fun e w' => ∃ r : Nat, (r : Int) < n ∧ e = .returned (.int .i64 r) ∧ w = w' := by
  obtain ⟨m, rfl⟩ := Int.eq_ofNat_of_zero_le (Int.le_of_lt h0)
  refine (cut_any x m w (by omega) (by omega)).mono ?_
  rintro e w' ⟨rfl, rfl⟩
  exact ⟨_, by have := cutN_lt x (n := m) (by omega); omega, rfl, rfl⟩
def SpPost (t : S42) (P : Nat → Prop) (W : World) (e : Ending) (w' : World) : Prop :=
  ∃ (t' : S42) (A : Option Addr) (c : Nat), e = .returned (.agg #[.int .i64 t'.f0, .string t'.f1, .int .i64 t'.f2, .slice A t'.f3.length c]) ∧ nmT t' = true ∧ szT t' ≤ szT t + 1 ∧ t'.f3.length ≤ c ∧ RowF (fun k => P k ∨ W.heap.size ≤ k) w' A t'.f3 ∧ Below W.heap.size W w'
def MidP (t : S42) (W : World) (ds : List Nd) (s7 : Value) (wx : World) : Prop :=
  ∃ b v1, s7 = .pointer (some ⟨b, 0, none⟩) ∧ W.heap.size + 2 ≤ b ∧ wx.heap[b]? = some (.cells #[.int .i64 t.f0, .string t.f1, .int .i64 t.f2, v1] 42 (0, 0)) ∧ wx.ownsRow (W.heap.size + 2) 42 4 v1 t.f3.length (ndCs ds) ∧ v1.ownBlock ≠ some b ∧ Below W.heap.size W wx ∧
    wx.heap[W.heap.size + 1]? = some (.cells #[.int .i64 0, .string ⟨#[]⟩, .int .i64 0, .slice none 0 0] 42 (0, 0))
theorem own_set4 {w : World} {b base n : Nat} {v : Value} {xs : List Value} (h : w.ownsRow base 42 4 v n xs) (hne : v.ownBlock ≠ some b) (v0 v1 v2 v3 : Value) :
    ((((w.setCell ⟨b, 0, none⟩ v0).setCell ⟨b, 1, none⟩ v1).setCell ⟨b, 2, none⟩ v2).setCell ⟨b, 3, none⟩ v3).ownsRow base 42 4 v n xs :=
  own_setCell (own_setCell (own_setCell (own_setCell h (p := ⟨b, 0, none⟩) (fun e => hne e.symm) _) (p := ⟨b, 1, none⟩) (fun e => hne e.symm) _) (p := ⟨b, 2, none⟩) (fun e => hne e.symm) _) (p := ⟨b, 3, none⟩) (fun e => hne e.symm) _
theorem below_set4 {B : Nat} {a w : World} {b : Nat} (h : Below B a w) (hb : B ≤ b) (v0 v1 v2 v3 : Value) :
    Below B a ((((w.setCell ⟨b, 0, none⟩ v0).setCell ⟨b, 1, none⟩ v1).setCell ⟨b, 2, none⟩ v2).setCell ⟨b, 3, none⟩ v3) :=
  (((h.setCell (p := ⟨b, 0, none⟩) hb _).setCell (p := ⟨b, 1, none⟩) hb _).setCell (p := ⟨b, 2, none⟩) hb _).setCell (p := ⟨b, 3, none⟩) hb _
theorem mid_mk {t : S42} {W w2 : World} {ds : List Nd} {b : Nat} {v1 z0 z1 z2 z3 : Value} (hb : W.heap.size + 2 ≤ b) (hbox : w2.heap[b]? = some (.cells #[z0, z1, z2, z3] 42 (0, 0))) (ho : w2.ownsRow (W.heap.size + 2) 42 4 v1 t.f3.length (ndCs ds)) (hne : v1.ownBlock ≠ some b) (hB : Below W.heap.size W w2)
    (hz : w2.heap[W.heap.size + 1]? = some (.cells #[.int .i64 0, .string ⟨#[]⟩, .int .i64 0, .slice none 0 0] 42 (0, 0))) :
    MidP t W ds (.pointer (some ⟨b, 0, none⟩)) ((((w2.setCell ⟨b, 0, none⟩ (.int .i64 t.f0)).setCell ⟨b, 1, none⟩ (.string t.f1)).setCell ⟨b, 2, none⟩ (.int .i64 t.f2)).setCell ⟨b, 3, none⟩ v1) :=
  ⟨b, v1, rfl, hb, box_set4 hbox _ _ _ _, own_set4 ho hne _ _ _ _, hne, below_set4 hB (by omega) _ _ _ _, set4_blk hz (by omega) _ _ _ _⟩
/-- a tree in the box b, ready to be handed out -/
def EndP (t : S42) (P : Nat → Prop) (W : World) (b : Nat) (wx : World) : Prop :=
  ∃ (k o : Int) (n : ByteArray) (l : List S42) (A : Option Addr) (c : Nat), wx.heap[b]? = some (.cells #[.int .i64 k, .string n, .int .i64 o, .slice A l.length c] 42 (0, 0)) ∧ n.size ≤ 64 ∧ nmL l = true ∧ szL l ≤ szL t.f3 + 1 ∧ l.length ≤ c ∧
    RowF (fun k => P k ∨ W.heap.size + 2 ≤ k) wx A l ∧ Below W.heap.size W wx ∧
    wx.heap[W.heap.size + 1]? = some (.cells #[.int .i64 0, .string ⟨#[]⟩, .int .i64 0, .slice none 0 0] 42 (0, 0))
/-- behind the last store, into the box of the result -/
theorem row_end {P : Nat → Prop} {W wx : World} {A : Option Addr} {l : List S42} (hP : ∀ k, P k → k < W.heap.size) (h : RowF (fun k => P k ∨ W.heap.size + 2 ≤ k) wx A l) (v0 v1 v2 v3 : Value) :
    RowF (fun k => P k ∨ W.heap.size ≤ k) ((((wx.setCell ⟨W.heap.size + 1, 0, none⟩ v0).setCell ⟨W.heap.size + 1, 1, none⟩ v1).setCell ⟨W.heap.size + 1, 2, none⟩ v2).setCell ⟨W.heap.size + 1, 3, none⟩ v3) A l := by
  refine (h.step fun k hk _ => ?_).mono fun k hk => hk.imp id (by omega)
  have hne : k ≠ W.heap.size + 1 := by
    rcases hk with hk | hk
    · have := hP k hk; omega
    · omega
  exact (Below.heap_setCell _ ⟨W.heap.size + 1, 3, none⟩ v3 k hne).trans ((Below.heap_setCell _ ⟨W.heap.size + 1, 2, none⟩ v2 k hne).trans ((Below.heap_setCell _ ⟨W.heap.size + 1, 1, none⟩ v1 k hne).trans (Below.heap_setCell _ ⟨W.heap.size + 1, 0, none⟩ v0 k hne)))
def OkF (P : Nat → Prop) (W : World) (ds : List Nd) : Prop := ∀ d ∈ ds, d.t.f3.length ≤ d.c ∧ RowF P W d.A d.t.f3
theorem OkF.later {P : Nat → Prop} {W wx : World} {ds : List Nd} (h : OkF P W ds) (hB : Below W.heap.size W wx) : ∀ d ∈ ds, d.t.f3.length ≤ d.c ∧ RowF (fun k => P k ∨ W.heap.size + 2 ≤ k) wx d.A d.t.f3 :=
  fun d hd => ⟨(h d hd).1, ((h d hd).2.keep hB).mono fun k hk => .inl hk⟩
theorem end_own {t : S42} {P : Nat → Prop} {W wx : World} {b m c : Nat} {k o : Int} {n : ByteArray} {A : Option Addr} {ds : List Nd} (hok : OkF P W ds) (hbx : wx.heap[b]? = some (.cells #[.int .i64 k, .string n, .int .i64 o, .slice A m c] 42 (0, 0)))
    (ho : wx.ownsRow (W.heap.size + 2) 42 4 (.slice A m c) m (ndCs ds)) (hl : ds.length = m) (hn : n.size ≤ 64) (hnm : nmL (ds.map Nd.t) = true) (hsz : szL (ds.map Nd.t) ≤ szL t.f3 + 1) (hm : m ≤ 1000000) (hB : Below W.heap.size W wx)
    (hz : wx.heap[W.heap.size + 1]? = some (.cells #[.int .i64 0, .string ⟨#[]⟩, .int .i64 0, .slice none 0 0] 42 (0, 0))) : EndP t P W b wx := by
  have e : (ds.map Nd.t).length = m := by rw [List.length_map, hl]
  refine ⟨k, o, n, ds.map Nd.t, A, c, by rw [e]; exact hbx, hn, hnm, hsz, ?_, ?_, hB, hz⟩
  · rw [e]; exact own_le ho
  · exact (own_rowF ho hl (fun k hk => .inr hk) hm (hok.later hB)).1
theorem own_ne1 {w : World} {base n b : Nat} {v : Value} {xs : List Value} (h : w.ownsRow base 42 4 v n xs) (hb : b < base) : v.ownBlock ≠ some b := fun e => by have := own_base h _ e; omega
theorem szL_app (a b : List S42) : szL (a ++ b) = szL a + szL b := by
  induction a with
  | nil => simp [szL]
  | cons x xs ih => rw [List.cons_append, szL, szL, ih]; omega
theorem end_drop {t : S42} {P : Nat → Prop} {W wx : World} {b m c c' : Nat} {k o : Int} {n : ByteArray} {A A' : Option Addr} {ds : List Nd} (ht : ds.map Nd.t = t.f3) (hok : OkF P W ds) (hbx : wx.heap[b]? = some (.cells #[.int .i64 k, .string n, .int .i64 o, .slice A' (m - 1) c'] 42 (0, 0)))
    (ho : wx.ownsRow (W.heap.size + 2) 42 4 (.slice A m c) m (ndCs ds)) (hl : ds.length = m) (hc' : m - 1 ≤ c') (hA : A' = (A.map fun x => ⟨x.block, x.off + 4, none⟩) ∨ m - 1 = 0) (hn : n.size ≤ 64) (hnm : nmL t.f3 = true) (hm : m ≤ 1000000) (hB : Below W.heap.size W wx)
    (hz : wx.heap[W.heap.size + 1]? = some (.cells #[.int .i64 0, .string ⟨#[]⟩, .int .i64 0, .slice none 0 0] 42 (0, 0))) : EndP t P W b wx := by
  have e : ((ds.drop 1).map Nd.t).length = m - 1 := by rw [List.length_map, List.length_drop, hl]
  have e2 : (ds.drop 1).map Nd.t = t.f3.drop 1 := by rw [List.map_drop, ht]
  refine ⟨k, o, n, (ds.drop 1).map Nd.t, A', c', by rw [e]; exact hbx, hn, ?_, ?_, by rw [e]; exact hc', ?_, hB, hz⟩
  · rw [e2, nmL_all]
    rw [nmL_all, List.all_eq_true] at hnm
    exact List.all_eq_true.2 fun x hx => hnm x (List.mem_of_mem_drop hx)
  · rw [e2]
    cases t.f3 with
    | nil => simp [szL]
    | cons x xs => simp only [List.drop_one, List.tail_cons, szL]; omega
  · have hf := drop_rowF (Q := fun k => P k ∨ W.heap.size + 2 ≤ k) ho hl (fun k hk => .inr hk) hm (hok.later hB)
    rcases hA with rfl | hA
    · exact hf
    · have : (ds.drop 1).map Nd.t = [] := List.eq_nil_of_length_eq_zero (by omega)
      rw [this]
      exact RowF.nil _ _ _
theorem ndCs_set (ds : List Nd) (j : Nat) (hj : j < ds.length) (d : Nd) (c0 c1 c2 c3 : Value) (hd : d.cs = [c0, c1, c2, c3]) :
    ((((ndCs ds).set (j * 4) c0).set (j * 4 + 1) c1).set (j * 4 + 2) c2).set (j * 4 + 3) c3 = ndCs (ds.set j d) := by
  induction ds generalizing j with
  | nil => simp at hj
  | cons e es ih =>
    cases j with
    | zero => rw [List.set_cons_zero, ndCs, ndCs, hd]; rfl
    | succ j =>
      rw [List.set_cons_succ, ndCs, ndCs, ← ih j (by simpa using hj)]
      have e1 : (j + 1) * 4 = j * 4 + 4 := by omega
      simp only [Nd.cs, e1, List.cons_append, List.nil_append, List.set_cons_succ]
theorem own_put4 {w : World} {base g n cap j : Nat} {ds : List Nd} (h : w.ownsRow base 42 4 (.slice (some ⟨g, 0, none⟩) n cap) n (ndCs ds)) (hj : j < ds.length) (d : Nd) :
    ((((w.setCell ⟨g, j * 4, none⟩ (.int .i64 d.t.f0)).setCell ⟨g, j * 4 + 1, none⟩ (.string d.t.f1)).setCell ⟨g, j * 4 + 2, none⟩ (.int .i64 d.t.f2)).setCell ⟨g, j * 4 + 3, none⟩ (.slice d.A d.t.f3.length d.c)).ownsRow base 42 4 (.slice (some ⟨g, 0, none⟩) n cap) n (ndCs (ds.set j d)) := by
  rw [← ndCs_set ds j hj d _ _ _ _ rfl]
  exact ((((h.stored (j * 4) _).1.stored (j * 4 + 1) _).1.stored (j * 4 + 2) _).1.stored (j * 4 + 3) _).1
theorem put4_blk {w : World} {b g o0 o1 o2 o3 : Nat} {cs : Array Value} {ty : TypeId} (h : w.heap[b]? = some (.cells cs ty (0, 0))) (hne : b ≠ g) (v0 v1 v2 v3 : Value) :
    ((((w.setCell ⟨g, o0, none⟩ v0).setCell ⟨g, o1, none⟩ v1).setCell ⟨g, o2, none⟩ v2).setCell ⟨g, o3, none⟩ v3).heap[b]? = some (.cells cs ty (0, 0)) :=
  blk_far (blk_far (blk_far (blk_far h hne _) hne _) hne _) hne _
theorem put4_below {B : Nat} {a w : World} {g o0 o1 o2 o3 : Nat} (h : Below B a w) (hb : B ≤ g) (v0 v1 v2 v3 : Value) :
    Below B a ((((w.setCell ⟨g, o0, none⟩ v0).setCell ⟨g, o1, none⟩ v1).setCell ⟨g, o2, none⟩ v2).setCell ⟨g, o3, none⟩ v3) :=
  (((h.setCell (p := ⟨g, o0, none⟩) hb _).setCell (p := ⟨g, o1, none⟩) hb _).setCell (p := ⟨g, o2, none⟩) hb _).setCell (p := ⟨g, o3, none⟩) hb _
theorem put4_keep {w : World} {g o0 o1 o2 o3 k : Nat} (hne : k ≠ g) (v0 v1 v2 v3 : Value) :
    ((((w.setCell ⟨g, o0, none⟩ v0).setCell ⟨g, o1, none⟩ v1).setCell ⟨g, o2, none⟩ v2).setCell ⟨g, o3, none⟩ v3).heap[k]? = w.heap[k]? :=
  (Below.heap_setCell _ ⟨g, o3, none⟩ v3 k hne).trans ((Below.heap_setCell _ ⟨g, o2, none⟩ v2 k hne).trans ((Below.heap_setCell _ ⟨g, o1, none⟩ v1 k hne).trans (Below.heap_setCell _ ⟨g, o0, none⟩ v0 k hne)))
/-- behind the call on a child and the store of what it gave -/
theorem end_set {t : S42} {P : Nat → Prop} {W wx : World} {b g j m c : Nat} {k o : Int} {n : ByteArray} {ds : List Nd} {d d2 : Nd} (ht : ds.map Nd.t = t.f3) (hok : OkF P W ds) (hd : ds[j]? = some d)
    (hbx : wx.heap[b]? = some (.cells #[.int .i64 k, .string n, .int .i64 o, .slice (some ⟨g, 0, none⟩) m c] 42 (0, 0)))
    (ho : wx.ownsRow (W.heap.size + 2) 42 4 (.slice (some ⟨g, 0, none⟩) m c) m (ndCs (ds.set j d2))) (hl : ds.length = m) (hn : n.size ≤ 64) (hnm : nmL t.f3 = true) (hm : m ≤ 1000000) (hB : Below W.heap.size W wx)
    (hz : wx.heap[W.heap.size + 1]? = some (.cells #[.int .i64 0, .string ⟨#[]⟩, .int .i64 0, .slice none 0 0] 42 (0, 0)))
    (hn2 : nmT d2.t = true) (hs2 : szT d2.t ≤ szT d.t + 1) (hc2 : d2.t.f3.length ≤ d2.c) (hf2 : RowF (fun k => P k ∨ W.heap.size + 2 ≤ k) wx d2.A d2.t.f3) : EndP t P W b wx := by
  have hj : j < ds.length := (List.getElem?_eq_some_iff.1 hd).1
  have hdj : ds[j] = d := (List.getElem?_eq_some_iff.1 hd).2
  have e : ((ds.set j d2).map Nd.t).length = m := by rw [List.length_map, List.length_set, hl]
  refine ⟨k, o, n, (ds.set j d2).map Nd.t, some ⟨g, 0, none⟩, c, by rw [e]; exact hbx, hn, nmL_map_set ds j d2 hn2 (by rw [ht]; exact hnm), ?_, ?_, ?_, hB, hz⟩
  · have := szL_map_set ds j d2 hj (by rw [hdj]; exact hs2)
    rw [ht] at this
    exact this
  · rw [e]; exact own_le ho
  · refine (own_rowF ho (by rw [List.length_set, hl]) (fun k hk => .inr hk) hm (fun x hx => ?_)).1
    rcases List.mem_or_eq_of_mem_set hx with hx | rfl
    · exact hok.later hB x hx
    · exact ⟨hc2, hf2⟩
set_option maxHeartbeats 4000000 in
set_option maxRecDepth 100000 in
theorem spoil_one (p q : Int) (t : S42) (A : Option Addr) (c : Nat) (P : Nat → Prop) (W : World) (hn : nmT t = true) (hsz : szT t ≤ 1000000) (hr0 : RowF P W A t.f3) (hP : ∀ k, P k → k < W.heap.size) (hc : t.f3.length ≤ c) (hw : WdAt W)
    (HI : ∀ x ∈ t.f3, ∀ (p q : Int) (A : Option Addr) (c : Nat) (W : World), nmT x = true → RowF P W A x.f3 → (∀ k, P k → k < W.heap.size) → x.f3.length ≤ c → WdAt W → Calls Tryd.prog 48 #[.agg #[.int .i64 x.f0, .string x.f1, .int .i64 x.f2, .slice A x.f3.length c], .int .i64 p, .int .i64 q] W (SpPost x P W)) :
    Calls Tryd.prog 48 #[.agg #[.int .i64 t.f0, .string t.f1, .int .i64 t.f2, .slice A t.f3.length c], .int .i64 p, .int .i64 q] W (SpPost t P W) := by
  have hu42 := Tryd.underlying42
  have HI1 := Aside0.mk HI
  clear HI
  obtain ⟨ds, hd1, _, hd3, hd2⟩ := hr0.inv
  have hll := szL_len t.f3
  rw [szT_eq] at hsz
  have HD : Aside0 (ds.length = t.f3.length) := ⟨by rw [← hd1, List.length_map]⟩
  have HN : Aside0 (t.f3.length ≤ 1000000) := ⟨by omega⟩
  have HC3 := Aside0.mk hd3
  have HD1 := Aside0.mk hd1
  have HD2 : Aside0 (OkF P W ds) := ⟨hd2⟩
  have HPW := Aside0.mk hP
  have HSZ := Aside0.mk hsz
  have HW := Aside0.mk hw
  have HNM := Aside0.mk hn
  have B0 : Aside0 ((W.alloc (.cells #[.int .i64 t.f0, .string t.f1, .int .i64 t.f2, .slice A t.f3.length c] 42)).heap[W.heap.size]? = some (.cells #[.int .i64 t.f0, .string t.f1, .int .i64 t.f2, .slice A t.f3.length c] 42 (0, 0))) := ⟨heap_alloc_new _ _⟩
  have CI : Aside0 (∀ (x n : Int) (w : World), 0 < n → n ≤ 1000000 → Calls Tryd.prog 27 #[.int .i64 x, .int .i64 n] w fun e w' => ∃ r : Nat, (r : Int) < n ∧ e = .returned (.int .i64 r) ∧ w = w') := ⟨fun x n w a b => cut_ex x n w a b⟩
  have CZ : Aside0 (∀ (x n : Int) (w : World), 0 < n → n ≤ 1000000 → Calls Tryd.prog 27 #[.int .i64 x, .int .i64 n] w fun e w' => ∃ r : Int, 0 ≤ r ∧ r < n ∧ e = .returned (.int .i64 r) ∧ w = w') := ⟨fun x n w a b => (cut_ex x n w a b).mono fun e w' ⟨r, h1, h2, h3⟩ => ⟨(r : Int), by omega, h1, h2, h3⟩⟩
  clear hd3 hll hd1 hd2 hr0 hP hsz hw hn
  go_enter Tryd.func48, Tryd.ntmps48
  go_upto_region 1 with fail
  have BZ : Aside0 (((W.alloc (.cells #[.int .i64 t.f0, .string t.f1, .int .i64 t.f2, .slice A t.f3.length c] 42)).alloc (.cells #[.int .i64 0, .string ⟨#[]⟩, .int .i64 0, .slice none 0 0] 42)).heap[W.heap.size + 1]? = some (.cells #[.int .i64 0, .string ⟨#[]⟩, .int .i64 0, .slice none 0 0] 42 (0, 0))) := ⟨heap_alloc_new2 _ _ _⟩
  have BP : Aside0 (((W.alloc (.cells #[.int .i64 t.f0, .string t.f1, .int .i64 t.f2, .slice A t.f3.length c] 42)).alloc (.cells #[.int .i64 0, .string ⟨#[]⟩, .int .i64 0, .slice none 0 0] 42)).heap[W.heap.size]? = some (.cells #[.int .i64 t.f0, .string t.f1, .int .i64 t.f2, .slice A t.f3.length c] 42 (0, 0))) := ⟨blk_alloc B0.out _⟩
  have HB : Aside0 (Below W.heap.size W ((W.alloc (.cells #[.int .i64 t.f0, .string t.f1, .int .i64 t.f2, .slice A t.f3.length c] 42)).alloc (.cells #[.int .i64 0, .string ⟨#[]⟩, .int .i64 0, .slice none 0 0] 42))) := ⟨(by repeat (first | (with_reducible first | exact Below.refl _ _ | apply below_alloc | apply pw_below_drewN | apply below_drew1 | refine below_set ?_ (Nat.le_refl _)) | assumption))⟩
  have HS1 : Aside0 (((W.alloc (.cells #[.int .i64 t.f0, .string t.f1, .int .i64 t.f2, .slice A t.f3.length c] 42)).alloc (.cells #[.int .i64 0, .string ⟨#[]⟩, .int .i64 0, .slice none 0 0] 42)).heap.size = W.heap.size + 2) := ⟨by simp⟩
  clear B0
  generalize (W.alloc (.cells #[.int .i64 t.f0, .string t.f1, .int .i64 t.f2, .slice A t.f3.length c] 42)).alloc (.cells #[.int .i64 0, .string ⟨#[]⟩, .int .i64 0, .slice none 0 0] 42) = w1 at *
  go_cut [7] (fun s7 wx => MidP t W ds s7 wx)
  case first =>
    as_aux_lemma =>
      have RD : Aside0 (∀ W', Below w1.heap.size w1 W' → 0 < t.f3.length → ∃ ad, A = some ad ∧ ∀ j u, (ndCs ds)[j]? = some u → W'.cell? (ad.add j) = some u) := ⟨fun W' h hp => by
        obtain ⟨ad, e, _, hh⟩ := HC3.out (by have := HD.out; omega)
        exact ⟨ad, e, fun j u hu => pw_cell_below (below_step HB.out h) (hh j u hu)⟩⟩
      have B2 := BP
      go_region_held3 (fun W' => W'.cell? ⟨W.heap.size, 0, none⟩ = some (.int .i64 t.f0) ∧ W'.cell? ⟨W.heap.size, 1, none⟩ = some (.string t.f1) ∧ W'.cell? ⟨W.heap.size, 2, none⟩ = some (.int .i64 t.f2) ∧ W'.cell? ⟨W.heap.size, 3, none⟩ = some (.slice A t.f3.length c)) (with_reducible first | exact cells4h BP.out | exact cells4h (blk_drew BP.out) | exact cells4h (blk_alloc BP.out _) | exact cells4h (blk_drew (blk_alloc BP.out _)) | exact cells4h B2.out | exact cells4h (blk_alloc B2.out _) | exact cells4h (set4_blk (blk_alloc B2.out _) (Nat.ne_of_lt (blk_lt B2.out)) _ _ _ _) | exact cells4h (set4_blk B2.out (Nat.ne_of_lt (blk_lt BP.out)) _ _ _ _) | fail) ((refine ts_copy (by rfl) (.const (.slice none 0 0)) (.tmp 16) rfl t.f3.length c A ds rfl rfl HD.out (by have := HN.out; omega) (RD.out _ (by repeat (first | (with_reducible first | exact Below.refl _ _ | apply below_alloc | apply pw_below_drewN | apply below_drew1 | refine below_set ?_ (Nat.le_refl _)) | assumption))) ?_; intro v1 w2 ho hg hat; obtain ⟨A7, c7, ev⟩ := own_slice ho; subst ev; have B2 : Aside0 (w2.heap[W.heap.size]? = some (.cells #[.int .i64 t.f0, .string t.f1, .int .i64 t.f2, .slice A t.f3.length c] 42 (0, 0))) := ⟨(hg.block _ (by first | exact blk_lt BP.out | exact blk_lt (blk_alloc BP.out _)) (by simp)).trans (by first | exact BP.out | exact blk_alloc BP.out _)⟩; first | (have B7 : w2.heap[w1.heap.size]? = some (.cells #[.int .i64 0, .string ⟨#[]⟩, .int .i64 0, .slice none 0 0] 42 (0, 0)) := (hg.block _ (by simp) (by simp)).trans (heap_alloc_new _ _); obtain ⟨z0, z1, z2, z3⟩ := cells4h B7; have y0 := blk_frozen B7 0; have y1 := blk_frozen B7 1; have y2 := blk_frozen B7 2; have y3 := blk_frozen B7 3) | skip))
      · go_wp2_with fail
        go_meet
        case rel =>
          have e1 := HS1.out
          have hs : w1.drew.heap.size ≤ w2.heap.size := hg.size
          have e2 : w1.drew.heap.size = w1.heap.size := rfl
          have hB := pw_below_grown (below_drew HB.out) none (below_size (below_drew HB.out)) hg (by simp)
          have hz := blk_grown (blk_drew BZ.out) hg (by simp)
          have ho' := own_weaken (base' := W.heap.size + 2) ho (by omega)
          have hne : (Value.slice A7 t.f3.length c7).ownBlock ≠ some w2.heap.size := fun e => absurd (own_lt ho _ e) (by omega)
          exact ⟨w2.heap.size, _, rfl, by omega, heap_alloc_new _ _, World.ownsRow.alloc ho' _, hne, below_alloc hB _, blk_alloc hz _⟩
      · go_wp2_with fail
        go_meet
        case rel =>
          have e1 := HS1.out
          have e2 : (w1.alloc (.cells #[.int .i64 0, .string ⟨#[]⟩, .int .i64 0, .slice none 0 0] 42)).drew.heap.size = w1.heap.size + 1 := alloc_size1 w1 _
          have hB := pw_below_grown (below_drew (below_alloc HB.out _)) none (below_size (below_drew (below_alloc HB.out _))) hg (by simp)
          have hz := blk_grown (blk_drew (blk_alloc BZ.out _)) hg (by simp)
          have ho' := own_weaken (base' := W.heap.size + 2) ho (by omega)
          have hne : (Value.slice A7 t.f3.length c7).ownBlock ≠ some w1.heap.size := fun e => by
            rcases hat with h | h
            · rw [h] at e; cases e
            · rw [h, e2] at e
              have := Option.some.inj e
              omega
          with_reducible exact mid_mk (by omega) B7 ho' hne hB hz
  case rest =>
    as_aux_lemma =>
      obtain ⟨b, v1, rfl, hb2, hbx, hown, hne, hbel, hz⟩ := hcut
      obtain ⟨A7, c7, rfl⟩ := own_slice hown
      have BX := Aside0.mk hbx
      have OW := Aside0.mk hown
      have NE := Aside0.mk hne
      have BB := Aside0.mk hbel
      have ZX := Aside0.mk hz
      have HB2 := Aside0.mk hb2
      obtain ⟨c0, c1, c2, c3⟩ := cells4h hbx
      have f0 := blk_frozen hbx 0
      have f1 := blk_frozen hbx 1
      have f2 := blk_frozen hbx 2
      have f3 := blk_frozen hbx 3
      obtain ⟨z0, z1, z2, z3⟩ := cells4h hz
      have y0 := blk_frozen hz 0
      have y1 := blk_frozen hz 1
      have y2 := blk_frozen hz 2
      have y3 := blk_frozen hz 3
      clear hbx hown hne hbel hz hb2
      go_upto_block 0 with (go_at_call 27; (with_reducible refine (CZ.out _ _ _ (by have := HN.out; omega) (by have := HN.out; omega)).mono ?_); rintro e w' ⟨r, hr0, hr, rfl, rfl⟩)
      ·
        as_aux_lemma =>
          obtain ⟨j, rfl⟩ := Int.eq_ofNat_of_zero_le hr0
          have hj : j < t.f3.length := by omega
          have hjd : j < ds.length := by have := HD.out; omega
          obtain ⟨g, hg7⟩ : ∃ g, A7 = some ⟨g, 0, none⟩ := by
            obtain ⟨g, cap, e, _⟩ := World.ownsRow.form OW.out (by omega)
            exact ⟨g, by injection e⟩
          subst hg7
          obtain ⟨d, hd⟩ : ∃ d, ds[j]? = some d := ⟨_, List.getElem?_eq_getElem hjd⟩
          have CJ : ∀ i, i < 4 → wc.cell? ⟨g, j * 4 + i, none⟩ = d.cs[i]? := fun i hi => by
            rw [World.ownsRow.cellAt OW.out _ (by omega)]
            exact ndCs_get ds j d hd i hi
          have FJ : ∀ i, wc.frozen? ⟨g, i, none⟩ = false := fun i => World.ownsRow.frozenAt OW.out i
          have J0 : wc.cell? ⟨g, j * 4, none⟩ = some (.int .i64 d.t.f0) := (CJ 0 (by omega)).trans rfl
          have J1 : wc.cell? ⟨g, j * 4 + 1, none⟩ = some (.string d.t.f1) := (CJ 1 (by omega)).trans rfl
          have J2 : wc.cell? ⟨g, j * 4 + 2, none⟩ = some (.int .i64 d.t.f2) := (CJ 2 (by omega)).trans rfl
          have J3 : wc.cell? ⟨g, j * 4 + 3, none⟩ = some (.slice d.A d.t.f3.length d.c) := (CJ 3 (by omega)).trans rfl
          have HM : Aside0 (d ∈ ds) := ⟨List.mem_of_getElem? hd⟩
          have HMT : Aside0 (d.t ∈ t.f3) := ⟨by rw [← HD1.out]; exact List.mem_map_of_mem HM.out⟩
          have HOK : Aside0 (d.t.f3.length ≤ d.c ∧ RowF P wc.drew d.A d.t.f3) := ⟨(HD2.out d HM.out).1, (HD2.out d HM.out).2.keep (below_drew BB.out)⟩
          have HPC : Aside0 (∀ k, P k → k < wc.drew.heap.size) := ⟨fun k hk => Nat.lt_of_lt_of_le (HPW.out k hk) (below_size (below_drew BB.out))⟩
          have HNT : Aside0 (nmT d.t = true) := ⟨by
            have h1 := HNM.out
            rw [nmT_eq, Bool.and_eq_true, nmL_all, List.all_eq_true] at h1
            exact h1.2 _ HMT.out⟩
          have HBD : Aside0 (Below W.heap.size W wc.drew) := ⟨below_drew BB.out⟩
          have HWD : Aside0 (WdAt wc.drew) := ⟨HW.out.below HBD.out⟩
          have HGB : Aside0 (b ≠ g) := ⟨fun e => NE.out (by rw [e]; rfl)⟩
          have HG2 : Aside0 (W.heap.size + 2 ≤ g ∧ g < wc.heap.size) := ⟨own_base OW.out g rfl, own_lt OW.out g rfl⟩
          have HJ := Aside0.mk hj
          have HJD := Aside0.mk hd
          have q0 : (0 : Int) ≤ (j : Int) := by omega
          have q1 : (j : Int) < (t.f3.length : Int) := by omega
          clear CJ FJ hj hjd hd hr0 hr
          go_cut [7] (fun s7 wx => s7 = .pointer (some ⟨b, 0, none⟩) ∧ EndP t P W b wx)
          case rest =>
            obtain ⟨rfl, k', o', n', l', A', c', e1, e2, e3, e4, e5, e6, e7, e8⟩ := hcut
            have E1 := Aside0.mk e1
            have E2 := Aside0.mk e2
            have E3 := Aside0.mk e3
            have E4 := Aside0.mk e4
            have E5 := Aside0.mk e5
            have E6 := Aside0.mk e6
            have E7 := Aside0.mk e7
            have E8 := Aside0.mk e8
            clear e1 e2 e3 e4 e5 e6 e7 e8 c0 c1 c2 c3 f0 f1 f2 f3 z0 z1 z2 z3 y0 y1 y2 y3 J0 J1 J2 J3 q0 q1
            rename_i wd
            obtain ⟨c0, c1, c2, c3⟩ := cells4h E1.out
            obtain ⟨z0, z1, z2, z3⟩ := cells4h E8.out
            have y0 := blk_frozen E8.out 0
            have y1 := blk_frozen E8.out 1
            have y2 := blk_frozen E8.out 2
            have y3 := blk_frozen E8.out 3
            go_wp2_with fail
            refine bodyPost_ret (results_cell_row rfl _ _ (W.heap.size + 1) 42 #[.int .i64 k', .string n', .int .i64 o', .slice A' l'.length c'] (0, 0) _ rfl ?hp Tryd.underlying42 rfl (by kernel_rfl)) rfl ?_
            case hp => with_reducible exact box_set4 E8.out _ _ _ _
            refine ⟨⟨k', n', o', l'⟩, A', c', rfl, ?_, ?_, E5.out, row_end HPW.out E6.out _ _ _ _, below_set4 E7.out (by omega) _ _ _ _⟩
            · rw [nmT_eq, Bool.and_eq_true, decide_eq_true_eq]; exact ⟨E2.out, E3.out⟩
            · rw [szT_eq, szT_eq]; have := E4.out; simp only; omega
          case first =>
            have SD : Aside0 (wc.drew.cell? ⟨b, 3, none⟩ = some (.slice (some ⟨g, 0, none⟩) t.f3.length c7)) := ⟨c3⟩
            clear c0 c1 c2 f0 f1 f2 f3 z0 z1 z2 z3 y0 y1 y2 y3
            refine wp_region_noPanic ?_
            refine wp_region_held_drew (S := fun W' => W'.cell? ⟨b, 3, none⟩ = some (.slice (some ⟨g, 0, none⟩) t.f3.length c7)) (by kernel_rfl) SD.out (fun hHeld => ?_)
            refine wpAnyH_take (i := 0) (oi := ({ dst := some 34, op := Op.fieldAddr 42 (Operand.tmp 7) 3, type := 0, pos := "raw.go:39", after := #[], guard := none } : Oper)) (v := ?v0) rfl (by kernel_rfl) (by kernel_rfl) (by kernel_rfl) (fun _ _ _ h => h) (Or.inl ⟨by rfl, ?y0⟩) (by assumption) ?r0
            case y0 => (intro w hSw; (try dsimp only at hSw); first | (go_simp; done) | (go_simp; with_reducible rfl))
            try simp only [Act.put, List.setIfInBounds_toArray, List.set_cons_zero, List.set_cons_succ]
            refine wpAnyH_take (i := 1) (oi := ({ dst := some 35, op := Op.load 40 (Operand.tmp 34), type := 40, pos := "raw.go:39", after := #[{ on := 0, ground := Ground.data }], guard := none } : Oper)) (v := ?v1) rfl (by kernel_rfl) (by kernel_rfl) (by kernel_rfl) (fun _ _ _ h => h) (Or.inl ⟨by rfl, ?y1⟩) (by assumption) ?r1
            case y1 => (intro w hSw; (try dsimp only at hSw); first | (go_simp; done) | (go_simp; with_reducible rfl))
            try simp only [Act.put, List.setIfInBounds_toArray, List.set_cons_zero, List.set_cons_succ]
            refine wpAnyH_take (i := 2) (oi := ({ dst := some 36, op := Op.move (Operand.tmp 8), type := 3, pos := "raw.go:39", after := #[], guard := none } : Oper)) (v := ?v2) rfl (by kernel_rfl) (by kernel_rfl) (by kernel_rfl) (fun _ _ _ h => h) (Or.inl ⟨by rfl, ?y2⟩) (by assumption) ?r2
            case y2 => (intro w hSw; (try dsimp only at hSw); first | (go_simp; done) | (go_simp; with_reducible rfl))
            try simp only [Act.put, List.setIfInBounds_toArray, List.set_cons_zero, List.set_cons_succ]
            refine wpAnyH_take (i := 3) (oi := ({ dst := some 37, op := Op.fieldAddr 42 (Operand.tmp 7) 3, type := 0, pos := "raw.go:39", after := #[], guard := none } : Oper)) (v := ?v3) rfl (by kernel_rfl) (by kernel_rfl) (by kernel_rfl) (fun _ _ _ h => h) (Or.inl ⟨by rfl, ?y3⟩) (by assumption) ?r3
            case y3 => (intro w hSw; (try dsimp only at hSw); first | (go_simp; done) | (go_simp; with_reducible rfl))
            try simp only [Act.put, List.setIfInBounds_toArray, List.set_cons_zero, List.set_cons_succ]
            refine wpAnyH_take (i := 4) (oi := ({ dst := some 38, op := Op.load 40 (Operand.tmp 37), type := 40, pos := "raw.go:39", after := #[{ on := 3, ground := Ground.data }], guard := none } : Oper)) (v := ?v4) rfl (by kernel_rfl) (by kernel_rfl) (by kernel_rfl) (fun _ _ _ h => h) (Or.inl ⟨by rfl, ?y4⟩) (by assumption) ?r4
            case y4 => (intro w hSw; (try dsimp only at hSw); first | (go_simp; done) | (go_simp; with_reducible rfl))
            try simp only [Act.put, List.setIfInBounds_toArray, List.set_cons_zero, List.set_cons_succ]
            refine wpAnyH_take (i := 5) (oi := ({ dst := some 39, op := Op.move (Operand.tmp 8), type := 3, pos := "raw.go:39", after := #[], guard := none } : Oper)) (v := ?v5) rfl (by kernel_rfl) (by kernel_rfl) (by kernel_rfl) (fun _ _ _ h => h) (Or.inl ⟨by rfl, ?y5⟩) (by assumption) ?r5
            case y5 => (intro w hSw; (try dsimp only at hSw); first | (go_simp; done) | (go_simp; with_reducible rfl))
            try simp only [Act.put, List.setIfInBounds_toArray, List.set_cons_zero, List.set_cons_succ]
            refine wpAnyH_take (i := 6) (oi := ({ dst := some 40, op := Op.indexAddr 40 (Operand.tmp 38) (Operand.tmp 39), type := 0, pos := "raw.go:39", after := #[{ on := 4, ground := Ground.data }, { on := 5, ground := Ground.data }], guard := none } : Oper)) (v := ?v6) rfl (by kernel_rfl) (by kernel_rfl) (by kernel_rfl) (fun _ _ _ h => h) (Or.inl ⟨by rfl, ?y6⟩) (by assumption) ?r6
            case y6 => (intro w hSw; (try dsimp only at hSw); first | (go_simp; done) | (go_simp; with_reducible rfl))
            try simp only [Act.put, List.setIfInBounds_toArray, List.set_cons_zero, List.set_cons_succ]
            refine wpAnyH_take (i := 8) (oi := ({ dst := some 42, op := Op.move (Operand.tmp 1), type := 3, pos := "raw.go:39", after := #[], guard := none } : Oper)) (v := ?v8) rfl (by kernel_rfl) (by kernel_rfl) (by kernel_rfl) (fun _ _ _ h => h) (Or.inl ⟨by rfl, ?y8⟩) (by assumption) ?r8
            case y8 => (intro w hSw; (try dsimp only at hSw); first | (go_simp; done) | (go_simp; with_reducible rfl))
            try simp only [Act.put, List.setIfInBounds_toArray, List.set_cons_zero, List.set_cons_succ]
            refine wpAnyH_take (i := 9) (oi := ({ dst := some 43, op := Op.binOp BinOp.quo 3 (Operand.tmp 42) (Operand.const (Value.int IntKind.i64 9)) 3, type := 3, pos := "raw.go:39", after := #[{ on := 8, ground := Ground.data }], guard := none } : Oper)) (v := ?v9) rfl (by kernel_rfl) (by kernel_rfl) (by kernel_rfl) (fun _ _ _ h => h) (Or.inl ⟨by rfl, ?y9⟩) (by assumption) ?r9
            case y9 => (intro w hSw; (try dsimp only at hSw); first | (go_simp; done) | (go_simp; with_reducible rfl))
            try simp only [Act.put, List.setIfInBounds_toArray, List.set_cons_zero, List.set_cons_succ]
            refine wpAnyH_take (i := 10) (oi := ({ dst := some 44, op := Op.move (Operand.tmp 2), type := 3, pos := "raw.go:39", after := #[], guard := none } : Oper)) (v := ?v10) rfl (by kernel_rfl) (by kernel_rfl) (by kernel_rfl) (fun _ _ _ h => h) (Or.inl ⟨by rfl, ?y10⟩) (by assumption) ?r10
            case y10 => (intro w hSw; (try dsimp only at hSw); first | (go_simp; done) | (go_simp; with_reducible rfl))
            try simp only [Act.put, List.setIfInBounds_toArray, List.set_cons_zero, List.set_cons_succ]
            refine wpAnyH_ready (rs := [7]) (by kernel_rfl) (by simp) ?_
            refine AllReadyH.cons (o := ({ dst := some 41, op := Op.load 42 (Operand.tmp 40), type := 42, pos := "raw.go:39", after := #[{ on := 6, ground := Ground.data }], guard := none } : Oper)) rfl (fun K hK => ?_) AllReadyH.nil
            go_simp
            refine hK.out _ _ (SD.out) (fun hHeld => ?_)
            clear hK K
            try simp only [Act.put, List.setIfInBounds_toArray, List.set_cons_zero, List.set_cons_succ]
            refine wpAnyH_ready (rs := [11]) (by kernel_rfl) (by simp) ?_
            refine AllReadyH.cons (o := ({ dst := some 45, op := Op.call { callee := Callee.value (Operand.func 48), args := #[Operand.tmp 41, Operand.tmp 43, Operand.tmp 44], argTypes := #[42, 3, 3] }, type := 42, pos := "raw.go:39", after := #[{ on := 7, ground := Ground.data }, { on := 9, ground := Ground.data }, { on := 10, ground := Ground.data }], guard := none } : Oper)) rfl (fun K hK => ?_) AllReadyH.nil
            go_simp
            go_at_call 48; (with_reducible refine (HI1.out d.t HMT.out _ _ _ _ _ HNT.out HOK.out.2 HPC.out HOK.out.1 HWD.out).mono ?_); rintro e w3 ⟨t2, A2, k2, rfl, n2, s2, l2, ft2, b2⟩; have BX3 := Aside0.mk (blk_below (blk_drew BX.out) b2); have OW3 := Aside0.mk (pw_own_below (World.ownsRow.drew OW.out) b2); have ZX3 := Aside0.mk (blk_below (blk_drew ZX.out) b2); have BB3 := Aside0.mk (below_step HBD.out b2); have J0' := pw_cell_below b2 (show wc.drew.cell? _ = _ from J0); have J1' := pw_cell_below b2 (show wc.drew.cell? _ = _ from J1); have J2' := pw_cell_below b2 (show wc.drew.cell? _ = _ from J2); have J3' := pw_cell_below b2 (show wc.drew.cell? _ = _ from J3); have F0' := World.ownsRow.frozenAt OW3.out (j * 4); have F1' := World.ownsRow.frozenAt OW3.out (j * 4 + 1); have F2' := World.ownsRow.frozenAt OW3.out (j * 4 + 2); have F3' := World.ownsRow.frozenAt OW3.out (j * 4 + 3); have SD3 : Aside0 (w3.cell? ⟨b, 3, none⟩ = some (.slice (some ⟨g, 0, none⟩) t.f3.length c7)) := ⟨(cells4h BX3.out).2.2.2⟩; have HN2 := Aside0.mk n2; have HS2 := Aside0.mk s2; have HL2 := Aside0.mk l2; have HF2 := Aside0.mk ft2; have HB2' := Aside0.mk b2; clear n2 s2 l2 ft2 b2
            refine hK.out _ _ (SD3.out) (fun hHeld => ?_)
            clear hK K
            try simp only [Act.put, List.setIfInBounds_toArray, List.set_cons_zero, List.set_cons_succ]
            refine wpAnyH_take (i := 12) (oi := ({ dst := some 46, op := Op.indexAddr 40 (Operand.tmp 35) (Operand.tmp 36), type := 0, pos := "raw.go:39", after := #[{ on := 1, ground := Ground.data }, { on := 2, ground := Ground.data }, { on := 0, ground := Ground.phase }, { on := 1, ground := Ground.phase }, { on := 2, ground := Ground.phase }, { on := 3, ground := Ground.phase }, { on := 4, ground := Ground.phase }, { on := 5, ground := Ground.phase }, { on := 6, ground := Ground.phase }, { on := 7, ground := Ground.phase }, { on := 8, ground := Ground.phase }, { on := 9, ground := Ground.phase }, { on := 10, ground := Ground.phase }, { on := 11, ground := Ground.phase }], guard := none } : Oper)) (v := ?v12) rfl (by kernel_rfl) (by kernel_rfl) (by kernel_rfl) (fun _ _ _ h => h) (Or.inl ⟨by rfl, ?y12⟩) (by assumption) ?r12
            case y12 => (intro w hSw; (try dsimp only at hSw); first | (go_simp; done) | (go_simp; with_reducible rfl))
            try simp only [Act.put, List.setIfInBounds_toArray, List.set_cons_zero, List.set_cons_succ]
            refine wpAnyH_ready (rs := [13]) (by kernel_rfl) (by simp) ?_
            refine AllReadyH.cons (o := ({ dst := none, op := Op.store 42 (Operand.tmp 46) (Operand.tmp 45), type := 0, pos := "raw.go:39", after := #[{ on := 12, ground := Ground.data }, { on := 11, ground := Ground.data }, { on := 11, ground := Ground.chain }, { on := 0, ground := Ground.phase }, { on := 1, ground := Ground.phase }, { on := 2, ground := Ground.phase }, { on := 3, ground := Ground.phase }, { on := 4, ground := Ground.phase }, { on := 5, ground := Ground.phase }, { on := 6, ground := Ground.phase }, { on := 7, ground := Ground.phase }, { on := 8, ground := Ground.phase }, { on := 9, ground := Ground.phase }, { on := 10, ground := Ground.phase }, { on := 11, ground := Ground.phase }], guard := none } : Oper)) rfl (fun K hK => ?_) AllReadyH.nil
            go_simp
            refine hK.out _ _ ((cells4h (put4_blk BX3.out HGB.out _ _ _ _)).2.2.2) (fun hHeld => ?_)
            clear hK K
            try simp only [Act.put, List.setIfInBounds_toArray, List.set_cons_zero, List.set_cons_succ]
            refine wpAnyH_done (by kernel_rfl) ?_ _
            refine NoPanic.normal ?_
            have BX4 := Aside0.mk (put4_blk (o0 := j * 4) (o1 := j * 4 + 1) (o2 := j * 4 + 2) (o3 := j * 4 + 3) BX3.out HGB.out (.int .i64 t2.f0) (.string t2.f1) (.int .i64 t2.f2) (.slice A2 t2.f3.length k2))
            have ZX4 := Aside0.mk (put4_blk (o0 := j * 4) (o1 := j * 4 + 1) (o2 := j * 4 + 2) (o3 := j * 4 + 3) ZX3.out (show W.heap.size + 1 ≠ g by have := HG2.out; omega) (.int .i64 t2.f0) (.string t2.f1) (.int .i64 t2.f2) (.slice A2 t2.f3.length k2))
            have BB4 := Aside0.mk (put4_below (o0 := j * 4) (o1 := j * 4 + 1) (o2 := j * 4 + 2) (o3 := j * 4 + 3) BB3.out (by have := HG2.out; omega : W.heap.size ≤ g) (.int .i64 t2.f0) (.string t2.f1) (.int .i64 t2.f2) (.slice A2 t2.f3.length k2))
            have OW4 := Aside0.mk (own_put4 OW3.out (by have := HJ.out; have := HD.out; omega : j < ds.length) ⟨t2, A2, k2⟩)
            have SE4 : Aside0 (RowF (fun k => P k ∨ W.heap.size + 2 ≤ k) ((((w3.setCell ⟨g, j * 4, none⟩ (.int .i64 t2.f0)).setCell ⟨g, j * 4 + 1, none⟩ (.string t2.f1)).setCell ⟨g, j * 4 + 2, none⟩ (.int .i64 t2.f2)).setCell ⟨g, j * 4 + 3, none⟩ (.slice A2 t2.f3.length k2)) A2 t2.f3) := ⟨by
              have hg2 := HG2.out
              have hs : wc.drew.heap.size = wc.heap.size := rfl
              refine (HF2.out.step fun k hk _ => put4_keep ?_ _ _ _ _).mono fun k hk => hk.imp id (by omega)
              rcases hk with hk | hk
              · have := HPW.out k hk; omega
              · omega⟩
            clear SD SD3 J0 J1 J2 J3 J0' J1' J2' J3' F0' F1' F2' F3' c3
            go_wp2_with fail
            go_meet
            case rel =>
              obtain ⟨hnm1, hnm2⟩ := by simpa [nmT_eq] using HNM.out
              exact ⟨rfl, end_set (d2 := ⟨t2, A2, k2⟩) HD1.out HD2.out HJD.out BX4.out OW4.out HD.out hnm1 hnm2 HN.out BB4.out ZX4.out HN2.out HS2.out HL2.out SE4.out⟩
      all_goals
        as_aux_lemma =>
          go_cut [7] (fun s7 wx => s7 = .pointer (some ⟨b, 0, none⟩) ∧ EndP t P W b wx)
          case rest =>
            obtain ⟨rfl, k', o', n', l', A', c', e1, e2, e3, e4, e5, e6, e7, e8⟩ := hcut
            have E1 := Aside0.mk e1
            have E2 := Aside0.mk e2
            have E3 := Aside0.mk e3
            have E4 := Aside0.mk e4
            have E5 := Aside0.mk e5
            have E6 := Aside0.mk e6
            have E7 := Aside0.mk e7
            have E8 := Aside0.mk e8
            clear e1 e2 e3 e4 e5 e6 e7 e8 c0 c1 c2 c3 f0 f1 f2 f3 z0 z1 z2 z3 y0 y1 y2 y3
            rename_i wd
            obtain ⟨c0, c1, c2, c3⟩ := cells4h E1.out
            obtain ⟨z0, z1, z2, z3⟩ := cells4h E8.out
            have y0 := blk_frozen E8.out 0
            have y1 := blk_frozen E8.out 1
            have y2 := blk_frozen E8.out 2
            have y3 := blk_frozen E8.out 3
            go_wp2_with fail
            refine bodyPost_ret (results_cell_row rfl _ _ (W.heap.size + 1) 42 #[.int .i64 k', .string n', .int .i64 o', .slice A' l'.length c'] (0, 0) _ rfl ?hp Tryd.underlying42 rfl (by kernel_rfl)) rfl ?_
            case hp => with_reducible exact box_set4 E8.out _ _ _ _
            refine ⟨⟨k', n', o', l'⟩, A', c', rfl, ?_, ?_, E5.out, row_end HPW.out E6.out _ _ _ _, below_set4 E7.out (by omega) _ _ _ _⟩
            · rw [nmT_eq, Bool.and_eq_true, decide_eq_true_eq]; exact ⟨E2.out, E3.out⟩
            · rw [szT_eq, szT_eq]; have := E4.out; simp only; omega
          case first =>
            have h6 : r = 0 ∨ r = 1 ∨ r = 2 ∨ r = 3 ∨ r = 4 ∨ r = 5 := by omega
            clear hr0 hr z0 z1 z2 z3 y0 y1 y2 y3
            rcases h6 with rfl | rfl | rfl | rfl | rfl | rfl
            · go_wp2_with (go_at_call 27; (with_reducible refine (CZ.out _ _ _ (by omega) (by omega)).mono ?_); rintro e w' ⟨k, hk0, hk, rfl, rfl⟩)
              go_meet
              case rel =>
                obtain ⟨hnm1, hnm2⟩ := by simpa [nmT_eq] using HNM.out
                exact ⟨rfl, end_own HD2.out (blk_put BX.out 0 _ rfl) (own_setCell OW.out (p := ⟨b, 0, none⟩) (fun e => NE.out e.symm) _) HD.out hnm1 (by rw [HD1.out]; exact hnm2) (by rw [HD1.out]; omega) HN.out (BB.out.setCell (p := ⟨b, 0, none⟩) (by have := HB2.out; show W.heap.size ≤ b; omega) _) (blk_far ZX.out (p := ⟨b, 0, none⟩) (by have := HB2.out; show _ ≠ b; omega) _)⟩
            · obtain ⟨ad, cw, hwd1, hwd2⟩ := HW.out.out
              have GA : Aside0 (∀ W', Below W.heap.size W W' → W'.cell? ⟨1, 0, none⟩ = some (.slice (some ad) 13 cw) ∧ ∀ j, j < 13 → W'.cell? (ad.add j) = some (.string (wdB j))) := ⟨fun W' h => ⟨pw_cell_below h hwd1, fun j hj => pw_cell_below h (hwd2 j hj)⟩⟩
              have B1 : Aside0 (Below W.heap.size W wc.drew) := ⟨below_drew BB.out⟩
              have B2 : Aside0 (∀ v, Below W.heap.size W (wc.drew.setCell ⟨b, 1, none⟩ v)) := ⟨fun v => Below.setCell (below_drew BB.out) (p := ⟨b, 1, none⟩) (by have := HB2.out; show W.heap.size ≤ b; omega) v⟩
              have B3 : Aside0 (∀ v, Below W.heap.size W (wc.setCell ⟨b, 1, none⟩ v).drew) := ⟨B2.out⟩
              clear hwd1 hwd2
              go_upto_region 10 with fail
              go_region_held3 (fun W' => W'.cell? ⟨1, 0, none⟩ = some (.slice (some ad) 13 cw) ∧ ∀ j, j < 13 → W'.cell? (ad.add j) = some (.string (wdB j))) (with_reducible first | exact GA.out _ B1.out | exact GA.out _ (B2.out _) | exact GA.out _ (B3.out _) | fail) ((go_at_call 27; (with_reducible refine (CI.out _ _ _ (by omega) (by omega)).mono ?_); rintro e w' ⟨k, hk, rfl, rfl⟩; have q0 := eq_true (show (0 : Int) ≤ (k : Int) by omega); have q1 := eq_true (show (k : Int) < 13 by omega); have q2 := eq_true (show k < 13 by omega)))
              go_wp2_with fail
              go_meet
              case rel =>
                obtain ⟨hnm1, hnm2⟩ := by simpa [nmT_eq] using HNM.out
                have hb2 := HB2.out
                refine ⟨rfl, end_own (wx := (wc.drew.setCell ⟨b, 1, none⟩ (.string (wdB k)))) HD2.out (blk_put (blk_drew BX.out) 1 _ rfl) (own_setCell (World.ownsRow.drew OW.out) (p := ⟨b, 1, none⟩) (fun e => NE.out e.symm) _) HD.out (wdB_len k) (by rw [HD1.out]; exact hnm2) (by rw [HD1.out]; omega) HN.out (Below.setCell (below_drew BB.out) (p := ⟨b, 1, none⟩) (by show W.heap.size ≤ b; omega) _) (blk_far (blk_drew ZX.out) (p := ⟨b, 1, none⟩) (by show _ ≠ b; omega) _)⟩
            · go_wp2_with (at_builtin; refine print_append_cells (w0 := wc) (W.heap.size + 2) rfl (.tmp 70) (.tmp 72) 40 42 _ 4 _ rfl Tryd.underlying40 info42 rfl (by decide) (by decide) (.slice A7 t.f3.length c7) t.f3.length (ndCs ds) [.int .i64 3, .string ⟨#[]⟩, .int .i64 0, .slice none 0 0] rfl rfl rfl (by simp [Value.oneCell']) OW.out (Below.refl _ _) (by have := blk_lt BX.out; have := HB2.out; omega) (by have := HN.out; omega) ?_; intro v1 w1 ho hb hg hat; obtain ⟨A8, c8, ev⟩ := own_slice ho; subst ev; have BX1 := Aside0.mk (blk_grown BX.out hg (fun e => NE.out e.symm)); have OW1 := Aside0.mk ho; have GG := Aside0.mk hg; have HAT := Aside0.mk hat; clear ho hb hg hat c0 c1 c2 c3 f0 f1 f2 f3; obtain ⟨c0, c1, c2, c3⟩ := cells4h BX1.out; have f3 := blk_frozen BX1.out 3)
              go_meet
              case rel =>
                obtain ⟨hnm1, hnm2⟩ := by simpa [nmT_eq] using HNM.out
                have hb2 := HB2.out
                have hbl := blk_lt BX.out
                have hB := pw_below_grown BB.out _ (below_size BB.out) GG.out (fun k hk => by have := own_base OW.out k hk; omega)
                have hz1 := blk_grown ZX.out GG.out (fun e => own_ne1 OW.out (by omega) e.symm)
                have hne1 : (Value.slice A8 (t.f3.length + 1) c8).ownBlock ≠ some b := fun e => by
                  rcases HAT.out with h | ⟨j, h, hj⟩
                  · rw [h] at e; exact NE.out e
                  · rw [h] at e; have := Option.some.inj e; omega
                have hnd : ndCs (ds ++ [⟨⟨3, ⟨#[]⟩, 0, []⟩, none, 0⟩]) = ndCs ds ++ [.int .i64 3, .string ⟨#[]⟩, .int .i64 0, .slice none 0 0] := by rw [ndCs_app]; rfl
                refine ⟨rfl, end_own (ds := ds ++ [⟨⟨3, ⟨#[]⟩, 0, []⟩, none, 0⟩]) ?_ (blk_put BX1.out 3 _ rfl) (own_setCell (hnd ▸ OW1.out) (p := ⟨b, 3, none⟩) (fun e => hne1 e.symm) _) ?_ hnm1 ?_ ?_ ?_ (hB.setCell (p := ⟨b, 3, none⟩) (by show W.heap.size ≤ b; omega) _) (blk_far hz1 (p := ⟨b, 3, none⟩) (by show _ ≠ b; omega) _)⟩
                · intro d hd
                  rcases List.mem_append.1 hd with hd | hd
                  · exact HD2.out d hd
                  · obtain rfl : d = _ := by simpa using hd
                    exact ⟨Nat.le_refl _, RowF.nil _ _ _⟩
                · have := HD.out; simp [this]
                · rw [List.map_append, HD1.out, nmL_all, List.all_append, ← nmL_all, hnm2]; rfl
                · rw [List.map_append, HD1.out, szL_app]; simp [szL, szT]
                · have := HN.out; have := HSZ.out; have := szL_len t.f3; omega
            · by_cases hn0 : t.f3.length = 0
              · try (exfalso; omega)
                all_goals
                  have HN0 := Aside0.mk hn0
                  have hq : decide (0 < t.f3.length) = false := by simp [hn0]
                  clear hn0
                  go_wp2_with fail
                  go_meet
                  case rel =>
                    obtain ⟨hnm1, hnm2⟩ := by simpa [nmT_eq] using HNM.out
                    exact ⟨rfl, end_own HD2.out BX.out OW.out HD.out hnm1 (by rw [HD1.out]; exact hnm2) (by rw [HD1.out]; omega) HN.out BB.out ZX.out⟩
              · try (exfalso; omega)
                all_goals
                  have hq := Nat.pos_of_ne_zero hn0
                  have HC7 : Aside0 (t.f3.length ≤ c7) := ⟨own_le OW.out⟩
                  clear hn0
                  go_wp2_with fail
                  all_goals go_meet
                  all_goals
                    case rel =>
                      obtain ⟨hnm1, hnm2⟩ := by simpa [nmT_eq] using HNM.out
                      have hb2 := HB2.out
                      have hc7 := HC7.out
                      refine ⟨rfl, end_drop HD1.out HD2.out (blk_put BX.out 3 _ rfl) (own_setCell OW.out (p := ⟨b, 3, none⟩) (fun e => NE.out e.symm) _) HD.out (by omega) ?_ hnm1 hnm2 HN.out (BB.out.setCell (p := ⟨b, 3, none⟩) (by show W.heap.size ≤ b; omega) _) (blk_far ZX.out (p := ⟨b, 3, none⟩) (by show _ ≠ b; omega) _)⟩
                      first | exact .inl rfl | (exact .inr (by omega))
            · go_wp2_with (go_at_call 27; (with_reducible refine (CZ.out _ _ _ (by omega) (by omega)).mono ?_); rintro e w' ⟨k, hk0, hk, rfl, rfl⟩)
              go_meet
              case rel =>
                obtain ⟨hnm1, hnm2⟩ := by simpa [nmT_eq] using HNM.out
                exact ⟨rfl, end_own HD2.out (blk_put BX.out 2 _ rfl) (own_setCell OW.out (p := ⟨b, 2, none⟩) (fun e => NE.out e.symm) _) HD.out hnm1 (by rw [HD1.out]; exact hnm2) (by rw [HD1.out]; omega) HN.out (BB.out.setCell (p := ⟨b, 2, none⟩) (by have := HB2.out; show W.heap.size ≤ b; omega) _) (blk_far ZX.out (p := ⟨b, 2, none⟩) (by have := HB2.out; show _ ≠ b; omega) _)⟩
            · go_wp2_with fail
              go_meet
              case rel =>
                have hb2 := HB2.out
                have hB := below_set4 (b := b) BB.out (by omega) (.int .i64 3) (.string ⟨#[]⟩) (.int .i64 0) (.slice none 0 0)
                exact ⟨rfl, 3, 0, ⟨#[]⟩, [], none, 0, box_set4 BX.out _ _ _ _, by decide, rfl, by simp [szL], Nat.le_refl _, RowF.nil _ _ _, hB, set4_blk ZX.out (by omega) _ _ _ _⟩
theorem spoil_any (P : Nat → Prop) (i : Nat) : ∀ t : S42, szT t ≤ i → ∀ (p q : Int) (A : Option Addr) (c : Nat) (W : World), nmT t = true → szT t ≤ 1000000 → RowF P W A t.f3 → (∀ k, P k → k < W.heap.size) → t.f3.length ≤ c → WdAt W →
    Calls Tryd.prog 48 #[.agg #[.int .i64 t.f0, .string t.f1, .int .i64 t.f2, .slice A t.f3.length c], .int .i64 p, .int .i64 q] W (SpPost t P W) := by
  induction i with
  | zero => intro t h; have := szT_pos t; omega
  | succ i ih =>
    intro t h p q A c W hn hsz hr hP hc hw
    refine spoil_one p q t A c P W hn hsz hr hP hc hw (fun x hx p q A c W hn hr hP hc hw => ?_)
    have := szL_mem hx
    rw [szT_eq] at h hsz
    exact ih x (by omega) p q A c W hn (by omega) hr hP hc hw
end
end Go.Proofs.YtajefkjcfmfjkaaDoor
