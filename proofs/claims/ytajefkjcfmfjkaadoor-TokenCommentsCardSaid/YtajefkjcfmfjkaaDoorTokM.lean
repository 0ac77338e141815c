/- TokenComments: the walk of the law. -/
import Derived.Test.YtajefkjcfmfjkaaDoorTokN
import Derived.Deep.RegionHeld2
namespace Go.Proofs.YtajefkjcfmfjkaaDoor
open Go.RowKit Go.Proofs.YtajefkjcfmfjkaaDoorW.PrintWords Go.Proofs.YtajefkjcfmfjkaaDoor.PTokenPieces

section
variable {P : Program} {ops : Array Oper} {o : Oper} {a : Act} {Q : Exit → Act → World → Prop} {K : Act → World → Prop}
/-- append of a string to bytes, in a region that draws its order -/
theorem step_append_str {w0 W : World} (base : Nat) (hw : Region.wanted o (yielded ops a.tmps) = true) (s x : Operand) (t u e : TypeId)
    (ho : o.op = .call { callee := .builtin .append, args := #[s, x], argTypes := #[t, u] })
    (ht : P.underlying t = some (.slice e)) (hu : P.underlying u = some .string) (hinfo : (P.info? e).map (fun i => (i.zero, i.size, i.bytes)) = some (some (.int .u8 0), 1, 1))
    (v : Value) (xs : List Int) (y : ByteArray) (hs : a.eval s = v) (hx : a.eval x = .string y)
    (HO : W.ownsRow base e 1 v xs.length (nums .u8 xs)) (HB : Below base w0 W) (hbase : base ≤ W.heap.size) (hl : xs.length + y.size ≤ 140737488355328)
    (h : ∀ v1 w1, w1.ownsRow base e 1 v1 (xs ++ bytesOf y).length (nums .u8 (xs ++ bytesOf y)) → Below base w0 w1 → K (a.put o.dst v1) w1) :
    if Region.wanted o (yielded ops a.tmps) = true then Oper.wp P o a W K Q else K (a.put o.dst undef) W := by
  obtain ⟨i0, hi, hzz⟩ := Option.map_eq_some_iff.1 hinfo
  simp only [Prod.mk.injEq] at hzz
  obtain ⟨hz0, hz1, hz2⟩ := hzz
  rw [if_pos hw]
  obtain ⟨v', w', hr, h2, h3, h4⟩ := Lib.run_append_own_string (P := P) W base t u o.type e i0 ht hu hi hz0 hz1 hz2 v xs.length (nums .u8 xs) HO y (by simp only [maxLen]; omega) hl hbase
  unfold Oper.wp execOp
  simp only [ho, resolve, invoke, builtin, Sem.run_bind, Sem.run_pure, Result.andThen_ok, List.map_toArray, List.map_cons, List.map_nil, hs, hx, hr]
  have hl2 : (xs ++ bytesOf y).length = xs.length + y.size := by rw [List.length_append, bytesOf_length]
  have hc : nums .u8 (xs ++ bytesOf y) = nums .u8 xs ++ Lib.strCells y := by
    rw [nums_append]
    congr 1
    simp [nums, bytesOf, Lib.strCells]
  exact h v' w' (by rw [hl2, hc]; exact h2) (HB.grown h3 hbase (own_base HO))
end

/-- the gaps -/
def gpL : List (List UInt8) := [[32], [10], [9, 32], [32, 37, 32, 99, 32, 125, 37, 32, 37, 123, 10], [32, 37, 123, 125, 37, 32], [32, 37, 123, 32, 97, 46, 32, 37, 123, 32, 98, 32, 125, 37, 32, 58, 32, 125, 37, 32], [13, 10], [32, 37, 37, 10]]
def gpAt (j : Nat) : List UInt8 := gpL.getD j [32]
theorem gp_len (j : Nat) : (gpAt j).length ≤ 20 ∧ 1 ≤ (gpAt j).length := by
  rcases Nat.lt_or_ge j 8 with h | h
  · revert j; decide
  · have hl : gpL.length ≤ j := h
    unfold gpAt
    rw [List.getD_eq_getElem?_getD, List.getElem?_eq_none hl]
    simp
theorem hop_one {c : UInt8} {q : List UInt8} (h : isBlank c = true) (o cnt : Nat) : lexL o (c :: q) cnt = lexL (o + 1) q cnt :=
  lexL_hop (p := [c]) (by rw [nextL_cons, if_pos h]) rfl
theorem gap_ok (j : Nat) (h : j < 8) : GapL (gpAt j) := by
  refine ⟨fun q => ?_, fun q o cnt => ?_⟩
  · match j, h with
    | 0, _ => exact BlankL.cons _ (by decide)
    | 1, _ => exact BlankL.cons _ (by decide)
    | 2, _ => exact BlankL.cons _ (by decide)
    | 3, _ => exact BlankL.cons _ (by decide)
    | 4, _ => exact BlankL.cons _ (by decide)
    | 5, _ => exact BlankL.cons _ (by decide)
    | 6, _ => exact BlankL.cons _ (by decide)
    | 7, _ => exact BlankL.cons _ (by decide)
  · match j, h with
    | 0, _ => exact hop_one (by decide) o cnt
    | 1, _ => exact hop_one (by decide) o cnt
    | 2, _ =>
      show lexL o (9 :: 32 :: q) cnt = lexL (o + 2) q cnt
      rw [hop_one (by decide), hop_one (by decide)]
    | 3, _ =>
      show lexL o (32 :: 37 :: 32 :: 99 :: 32 :: 125 :: 37 :: 32 :: 37 :: 123 :: 10 :: q) cnt = lexL (o + 11) q cnt
      rw [hop_one (by decide), lexL_hop (c := 37) (l := 32 :: 99 :: 32 :: 125 :: 37 :: 32 :: 37 :: 123 :: 10 :: q) (p := [37, 32, 99, 32, 125, 37, 32, 37, 123]) (r := 10 :: q) (by kernel_rfl) rfl, hop_one (by decide)]
      rfl
    | 4, _ =>
      show lexL o (32 :: 37 :: 123 :: 125 :: 37 :: 32 :: q) cnt = lexL (o + 6) q cnt
      rw [hop_one (by decide), lexL_hop (c := 37) (l := 123 :: 125 :: 37 :: 32 :: q) (p := [37, 123, 125, 37]) (r := 32 :: q) (by kernel_rfl) rfl, hop_one (by decide)]
      rfl
    | 5, _ =>
      show lexL o (32 :: 37 :: 123 :: 32 :: 97 :: 46 :: 32 :: 37 :: 123 :: 32 :: 98 :: 32 :: 125 :: 37 :: 32 :: 58 :: 32 :: 125 :: 37 :: 32 :: q) cnt = lexL (o + 20) q cnt
      rw [hop_one (by decide), lexL_hop (c := 37) (l := 123 :: 32 :: 97 :: 46 :: 32 :: 37 :: 123 :: 32 :: 98 :: 32 :: 125 :: 37 :: 32 :: 58 :: 32 :: 125 :: 37 :: 32 :: q) (p := [37, 123, 32, 97, 46, 32, 37, 123, 32, 98, 32, 125, 37, 32, 58, 32, 125, 37]) (r := 32 :: q) (by kernel_rfl) rfl, hop_one (by decide)]
      rfl
    | 6, _ =>
      show lexL o (13 :: 10 :: q) cnt = lexL (o + 2) q cnt
      rw [hop_one (by decide), hop_one (by decide)]
    | 7, _ =>
      show lexL o (32 :: 37 :: 37 :: 10 :: q) cnt = lexL (o + 4) q cnt
      rw [hop_one (by decide), lexL_hop (c := 37) (l := 37 :: 10 :: q) (p := [37, 37]) (r := 10 :: q) (by kernel_rfl) rfl, hop_one (by decide)]
      rfl

/-- which gap stands behind the token of a number -/
def gpI (m : List Int) (i : Nat) : Nat := if i < m.length then cutN (rd m i) 8 else 0
theorem gpI_lt (m : List Int) (i : Nat) : gpI m i < 8 := by
  unfold gpI
  split
  · exact cutN_lt _ (by omega)
  · omega
/-- the tokens with their gaps -/
def gpT (m : List Int) (xs : List Tk) : List (Tk × List UInt8) := xs.mapIdx fun i x => (x, gpAt (gpI m i))
theorem gpT_len (m : List Int) (xs : List Tk) : (gpT m xs).length = xs.length := by simp [gpT]
theorem gapped_app : ∀ (a : List (Tk × List UInt8)) (b : List (Tk × List UInt8)), gapped (a ++ b) = gapped a ++ gapped b
  | [], _ => rfl
  | (x, g) :: r, b => by
    show wdL x.k x.t ++ (g ++ gapped (r ++ b)) = (wdL x.k x.t ++ (g ++ gapped r)) ++ gapped b
    rw [gapped_app r b]; simp [List.append_assoc]
theorem gapped_step (m : List Int) (xs : List Tk) (k : Nat) (h : k < xs.length) : gapped ((gpT m xs).take (k + 1)) = gapped ((gpT m xs).take k) ++ (wdL xs[k].k xs[k].t ++ gpAt (gpI m k)) := by
  rw [List.take_succ_eq_append_getElem (by rw [gpT_len]; exact h), gapped_app]
  have : (gpT m xs)[k]'(by rw [gpT_len]; exact h) = (xs[k], gpAt (gpI m k)) := by simp [gpT]
  rw [this]
  simp [gapped]
theorem gapped_len : ∀ (a : List (Tk × List UInt8)), (∀ x ∈ a, x.2.length ≤ 20) → (gapped a).length ≤ (a.map fun x => (wdL x.1.k x.1.t).length).sum + 20 * a.length
  | [], _ => by simp [gapped]
  | (x, g) :: r, h => by
    have h1 := gapped_len r (fun y hy => h y (List.mem_cons_of_mem _ hy))
    have h2 := h (x, g) (List.mem_cons_self ..)
    show (wdL x.k x.t ++ (g ++ gapped r)).length ≤ _
    rw [List.length_append, List.length_append, List.map_cons, List.sum_cons, List.length_cons]
    simp only at h2 ⊢
    omega
theorem gpT_mem {m : List Int} {xs : List Tk} {x : Tk × List UInt8} (h : x ∈ gpT m xs) : x.1 ∈ xs ∧ ∃ i, x.2 = gpAt (gpI m i) := by
  unfold gpT at h
  obtain ⟨i, hi, he⟩ := List.mem_mapIdx.1 h
  rw [← he]
  exact ⟨List.getElem_mem _, i, rfl⟩
theorem gpT_fst (m : List Int) (xs : List Tk) : (gpT m xs).map Prod.fst = xs := by
  apply List.ext_getElem
  · simp [gpT]
  · intro i h1 h2; simp [gpT]
theorem gapped_bound (m : List Int) (xs : List Tk) (k : Nat) (h1 : (xs.map fun x => (wdL x.k x.t).length).sum ≤ 19200) (h2 : xs.length ≤ 900) : (gapped ((gpT m xs).take k)).length ≤ 37200 := by
  have h0 := gapped_len (gpT m xs) (fun x hx => by obtain ⟨_, i, e⟩ := gpT_mem hx; rw [e]; exact (gp_len _).1)
  have e1 : ((gpT m xs).map fun x => (wdL x.1.k x.1.t).length) = xs.map fun x => (wdL x.k x.t).length := by
    conv => rhs; rw [← gpT_fst m xs]
    rw [List.map_map]; rfl
  rw [e1, gpT_len] at h0
  have h3 : (gapped ((gpT m xs).take k)).length ≤ (gapped (gpT m xs)).length := by
    conv => rhs; rw [← List.take_append_drop k (gpT m xs), gapped_app, List.length_append]
    omega
  omega

set_option maxHeartbeats 4000000 in
set_option maxRecDepth 100000 in
theorem tokenComments_walk (w : World) (A : Option Addr) (c : Nat) (l : List Int) (hr : Kd.C (Kd.int .i64) w A l.length l) (A' : Option Addr) (c' : Nat) (m : List Int) (hr' : Kd.C (Kd.int .i64) w A' m.length m) (hp : PcAt w) :
    Calls Tryd.prog 8 #[.slice A l.length c, .slice A' m.length c'] w fun e w' => e = .returned (.bool true) ∧ Below w.heap.size w w' := by
  have hll : l.length ≤ 9223372036854775807 := hr.2.1
  have hlm : m.length ≤ 9223372036854775807 := hr'.2.1
  have HT := Aside0.mk (text_any l A c w hll hr hp)
  have HA := Aside0.mk awake_any
  have hX := lexL_facts (textL l) 0 0
  have hN := text_len l
  have hWl := wt_text l
  have HL := Aside0.mk (text_lex l)
  have HM := Aside0.mk hr'
  generalize lexL 0 (textL l) 0 = R at hX HL
  generalize (⟨(textL l).toArray⟩ : ByteArray) = S1 at HT HL
  obtain ⟨xs, e, n⟩ := R
  obtain ⟨h1, h2, h3, h4⟩ := hX
  simp only at h1 h2 h3 h4
  by_cases he : e = 0
  · subst he
    have hxl : xs.length ≤ 900 := by omega
    have HX := Aside0.mk h1
    have H3 : Aside0 ((xs.map fun x => (wdL x.k x.t).length).sum ≤ 19200) := ⟨by omega⟩
    clear h1 h2 h3 h4 hN hWl hr hr' hp
    go_enter Tryd.func8, Tryd.ntmps8
    go_wp2_with (first | (go_at_call 18; ((with_reducible refine HT.out.mono ?_); rintro e w' ⟨rfl, hb⟩; have HB := Aside0.mk hb; clear hb)) | (go_at_call 24; ((with_reducible refine (HL.out _).mono ?_); rintro e w3 ⟨A1, c1, rfl, hc1, hC, hb⟩; have HC := Aside0.mk hC; have HB3 := Aside0.mk (below_step HB.out hb); clear hC hb HB)))
    have HB4 : Aside0 (Below w.heap.size w (w3.alloc (Obj.cells #[Value.string ⟨#[32]⟩, Value.string ⟨#[10]⟩, Value.string ⟨#[9, 32]⟩, Value.string ⟨#[32, 37, 32, 99, 32, 125, 37, 32, 37, 123, 10]⟩, Value.string ⟨#[32, 37, 123, 125, 37, 32]⟩, Value.string ⟨#[32, 37, 123, 32, 97, 46, 32, 37, 123, 32, 98, 32, 125, 37, 32, 58, 32, 125, 37, 32]⟩, Value.string ⟨#[13, 10]⟩, Value.string ⟨#[32, 37, 37, 10]⟩] 9))) := ⟨below_alloc HB3.out _⟩
    have HC4 : Aside0 (Kd.C k35 (w3.alloc (Obj.cells #[Value.string ⟨#[32]⟩, Value.string ⟨#[10]⟩, Value.string ⟨#[9, 32]⟩, Value.string ⟨#[32, 37, 32, 99, 32, 125, 37, 32, 37, 123, 10]⟩, Value.string ⟨#[32, 37, 123, 125, 37, 32]⟩, Value.string ⟨#[32, 37, 123, 32, 97, 46, 32, 37, 123, 32, 98, 32, 125, 37, 32, 58, 32, 125, 37, 32]⟩, Value.string ⟨#[13, 10]⟩, Value.string ⟨#[32, 37, 37, 10]⟩] 9)) A1 xs.length (xs.map tkS)) := ⟨Kd.C_below HC.out (below_alloc (Below.refl _ _) _)⟩
    have HG : Aside0 (∀ j, j < 8 → (w3.alloc (Obj.cells #[Value.string ⟨#[32]⟩, Value.string ⟨#[10]⟩, Value.string ⟨#[9, 32]⟩, Value.string ⟨#[32, 37, 32, 99, 32, 125, 37, 32, 37, 123, 10]⟩, Value.string ⟨#[32, 37, 123, 125, 37, 32]⟩, Value.string ⟨#[32, 37, 123, 32, 97, 46, 32, 37, 123, 32, 98, 32, 125, 37, 32, 58, 32, 125, 37, 32]⟩, Value.string ⟨#[13, 10]⟩, Value.string ⟨#[32, 37, 37, 10]⟩] 9)).cell? ⟨w3.heap.size, j, none⟩ = some (.string ⟨(gpAt j).toArray⟩)) := by
      constructor
      intro j hj
      refine (blk_cell (blk_new w3 (Obj.cells #[Value.string ⟨#[32]⟩, Value.string ⟨#[10]⟩, Value.string ⟨#[9, 32]⟩, Value.string ⟨#[32, 37, 32, 99, 32, 125, 37, 32, 37, 123, 10]⟩, Value.string ⟨#[32, 37, 123, 125, 37, 32]⟩, Value.string ⟨#[32, 37, 123, 32, 97, 46, 32, 37, 123, 32, 98, 32, 125, 37, 32, 58, 32, 125, 37, 32]⟩, Value.string ⟨#[13, 10]⟩, Value.string ⟨#[32, 37, 37, 10]⟩] 9)) j).trans ?_
      match j, hj with
      | 0, _ => rfl
      | 1, _ => rfl
      | 2, _ => rfl
      | 3, _ => rfl
      | 4, _ => rfl
      | 5, _ => rfl
      | 6, _ => rfl
      | 7, _ => rfl
    clear HB3 HC
    generalize w3.heap.size = GB at HG ⊢
    generalize w3.alloc (Obj.cells #[Value.string ⟨#[32]⟩, Value.string ⟨#[10]⟩, Value.string ⟨#[9, 32]⟩, Value.string ⟨#[32, 37, 32, 99, 32, 125, 37, 32, 37, 123, 10]⟩, Value.string ⟨#[32, 37, 123, 125, 37, 32]⟩, Value.string ⟨#[32, 37, 123, 32, 97, 46, 32, 37, 123, 32, 98, 32, 125, 37, 32, 58, 32, 125, 37, 32]⟩, Value.string ⟨#[13, 10]⟩, Value.string ⟨#[32, 37, 37, 10]⟩] 9) = w4 at HB4 HC4 HG ⊢
    go_loopw [8, 10] (fun v x w' => ∃ (k : Nat) (A2 : Option Addr) (c2 : Nat), k ≤ xs.length ∧ x = .int .i64 k ∧ v = .slice A2 (ints (gapped ((gpT m xs).take k))).length c2 ∧ Aside0 (w'.ownsRow w4.heap.size 5 1 (.slice A2 (ints (gapped ((gpT m xs).take k))).length c2) (ints (gapped ((gpT m xs).take k))).length (nums .u8 (ints (gapped ((gpT m xs).take k))))) ∧ Aside0 (Below w4.heap.size w4 w')) (fun _ x _ => xs.length - (intOf x).toNat)
    case atStart => exact ⟨0, none, 0, by omega, rfl, rfl, ⟨own_nil _ _ _ _⟩, ⟨Below.refl _ _⟩⟩
    case round =>
      obtain ⟨k, A2, c2, hk, rfl, rfl, HO, HBW⟩ := hrel
      by_cases hlt : k < xs.length
      · have hlti : (k : Int) < (xs.length : Int) := by omega
        have hst := gapped_step m xs k hlt
        obtain ⟨ad, e1, hx0, hx1, hx2⟩ := at_T35 HC4.out (k : Int) (by omega) (by omega)
        subst e1
        rw [Int.toNat_natCast, rd_tk2 xs k hlt] at hx0 hx1 hx2
        have hx4 := hx1
        replace hx0 := pw_cell_below HBW.out hx0
        clear hx1 hx2
        have HLK : Aside0 ((ints (gapped ((gpT m xs).take k))).length ≤ 37200) := by
          constructor
          have := gapped_bound m xs k H3.out hxl
          have h4 : (ints (gapped ((gpT m xs).take k))).length = (gapped ((gpT m xs).take k)).length := by simp [ints]
          omega
        have HLN : Aside0 (((ints (gapped ((gpT m xs).take k))).length + 1) * 1 ≤ 140737488355328) := ⟨by have := HLK.out; omega⟩
        have hTs : (tkS xs[k]).f1.size ≤ 64 := (wd_len (HX.out _ (List.getElem_mem hlt))).2.1
        have hTb : bytesOf (tkS xs[k]).f1 = ints xs[k].t := ints_bytes _
        have hq4 := HG.out (gpI m k) (gpI_lt m k)
        have hGs : (⟨(gpAt (gpI m k)).toArray⟩ : ByteArray).size ≤ 20 := (gp_len _).1
        have hGb : bytesOf (⟨(gpAt (gpI m k)).toArray⟩ : ByteArray) = ints (gpAt (gpI m k)) := ints_bytes _
        have hK : (tkS xs[k]).f0 = (xs[k].k : Int) := rfl
        have hFin : Aside0 (ints (gapped ((gpT m xs).take (k + 1))) = ints (gapped ((gpT m xs).take k)) ++ (ints (wdL xs[k].k xs[k].t) ++ ints (gpAt (gpI m k)))) := by
          constructor
          rw [hst]; simp [ints]
        clear hst
        generalize (⟨(gpAt (gpI m k)).toArray⟩ : ByteArray) = G at hq4 hGs hGb
        generalize (tkS xs[k]).f1 = T at hx4 hTs hTb
        generalize (tkS xs[k]).f0 = K0 at hx0 hK
        by_cases hmk : k < m.length
        · have hmi : (k : Int) < (m.length : Int) := by omega
          obtain ⟨md, e2, hm0⟩ := Kd.at_int HM.out (k : Int) (by omega) (by omega)
          subst e2
          replace hm0 := pw_cell_below HBW.out (pw_cell_below HB4.out hm0)
          rw [Int.toNat_natCast] at hm0
          have hcut : ∀ W, Calls Tryd.prog 27 #[.int .i64 (rd m (k : Int)), .int .i64 8] W fun e w' => e = .returned (.int .i64 ((cutN (rd m (k : Int)) 8 : Nat) : Int)) ∧ w' = W := fun W => cut_any (rd m k) 8 W (by omega) (by omega)
          have hgi : gpI m k = cutN (rd m k) 8 := by unfold gpI; rw [if_pos hmk]
          have hc8 := cutN_lt (rd m k) (n := 8) (by omega)
          rw [hgi] at hq4 hGb hFin
          generalize cutN (rd m k) 8 = J at hcut hq4 hc8 hGb hFin
          have hJ8 : (J : Int) < 8 := by omega
          clear hgi
          by_cases h3 : xs[k].k = 3
          · have hd3 : (K0 == 3) = true := by rw [hK, h3]; rfl
            have hwd : ints (wdL xs[k].k xs[k].t) = [37] ++ bytesOf T := (by rw [hTb]; unfold wdL; rw [if_pos h3]; rfl); rw [hwd, ← hGb] at hFin; clear hwd hK hTb hGb h3
            go_wp2_with (first | (go_at_call 27; (with_reducible refine (hcut _).mono ?_); rintro e w' ⟨rfl, hw⟩; rw [hw]; clear hw w') | (at_builtin; refine print_append_num (w0 := w4) w4.heap.size rfl (.tmp 49) (.tmp 50) 37 5 .u8 1 rfl Tryd.underlying37 info5 (by decide) (.slice A2 (ints (gapped ((gpT m xs).take k))).length c2) (ints (gapped ((gpT m xs).take k))) 37 rfl rfl HO.out HBW.out (below_size HBW.out) HLN.out ?_; intro v1 w1 ho hb hg hat; have HO1 := Aside0.mk ho; have HB1 := Aside0.mk hb; clear ho hb hg hat))
            have HL1 : Aside0 (((ints (gapped ((gpT m xs).take k)) ++ [37])).length + T.size ≤ 140737488355328 ∧ ((ints (gapped ((gpT m xs).take k)) ++ [37]) ++ bytesOf T).length + G.size ≤ 140737488355328) := (by constructor; have := HLK.out; have e1 := bytesOf_length T; simp only [List.length_append, List.length_cons, List.length_nil]; omega); go_region_held2 (fun W' => W'.cell? ⟨(ad.add (k * 3)).block, (ad.add (k * 3)).off + 1, none⟩ = some (.string T) ∧ W'.cell? ⟨GB, J, none⟩ = some (.string G)) ((first | exact ⟨pw_cell_below HBb.out hx4, pw_cell_below HBb.out hq4⟩ | exact ⟨pw_cell_below HBa.out hx4, pw_cell_below HBa.out hq4⟩ | exact ⟨pw_cell_below (below_drew1 HB1.out) hx4, pw_cell_below (below_drew1 HB1.out) hq4⟩)) ((first | (refine step_append_str (w0 := w4) w4.heap.size (by rfl) (.tmp 52) (.tmp 57) 37 9 5 rfl Tryd.underlying37 Tryd.underlying9 info5 v1 (ints (gapped ((gpT m xs).take k)) ++ [37]) T rfl rfl (own_drew HO1.out) (below_drew1 HB1.out) (below_size (below_drew1 HB1.out)) HL1.out.1 ?_; intro v2 w2 ho hb; have HOa := Aside0.mk ho; have HBa := Aside0.mk hb; clear ho hb) | (refine step_append_str (w0 := w4) w4.heap.size (by rfl) (.tmp 58) (.tmp 62) 37 9 5 rfl Tryd.underlying37 Tryd.underlying9 info5 v2 ((ints (gapped ((gpT m xs).take k)) ++ [37]) ++ bytesOf T) G rfl rfl HOa.out HBa.out (below_size HBa.out) HL1.out.2 ?_; intro v3 w5 ho hb; have HOb := Aside0.mk ho; have HBb := Aside0.mk hb; clear ho hb)))
            have hfe := hFin.out; have ho := HOb.out; simp only [List.append_assoc] at ho hfe; rw [← hfe] at ho; obtain ⟨A3, c3, ev⟩ := own_slice ho; subst ev; have HOd := Aside0.mk ho; clear ho hfe HOb HOa hFin; go_wp2; go_roundw; (case rel => exact ⟨k + 1, A3, c3, by omega, by go_num, rfl, HOd, HBb⟩); (case measure => simp [intOf]; omega)
          · have hd3 : (K0 == 3) = false := by rw [beq_eq_false_iff_ne, hK]; omega
            have hwd : ints (wdL xs[k].k xs[k].t) = bytesOf T := (by rw [hTb]; unfold wdL; rw [if_neg h3]); rw [hwd, ← hGb] at hFin; clear hwd hK hTb hGb h3
            go_wp2_with (go_at_call 27; (with_reducible refine (hcut _).mono ?_); rintro e w' ⟨rfl, hw⟩; rw [hw]; clear hw w')
            have HL1 : Aside0 (((ints (gapped ((gpT m xs).take k)))).length + T.size ≤ 140737488355328 ∧ ((ints (gapped ((gpT m xs).take k))) ++ bytesOf T).length + G.size ≤ 140737488355328) := (by constructor; have := HLK.out; have e1 := bytesOf_length T; simp only [List.length_append]; omega); go_region_held2 (fun W' => W'.cell? ⟨(ad.add (k * 3)).block, (ad.add (k * 3)).off + 1, none⟩ = some (.string T) ∧ W'.cell? ⟨GB, J, none⟩ = some (.string G)) ((first | exact ⟨pw_cell_below HBb.out hx4, pw_cell_below HBb.out hq4⟩ | exact ⟨pw_cell_below HBa.out hx4, pw_cell_below HBa.out hq4⟩ | exact ⟨pw_cell_below (below_drew1 HBW.out) hx4, pw_cell_below (below_drew1 HBW.out) hq4⟩)) ((first | (refine step_append_str (w0 := w4) w4.heap.size (by rfl) (.tmp 52) (.tmp 57) 37 9 5 rfl Tryd.underlying37 Tryd.underlying9 info5 (.slice A2 (ints (gapped ((gpT m xs).take k))).length c2) (ints (gapped ((gpT m xs).take k))) T rfl rfl (own_drew HO.out) (below_drew1 HBW.out) (below_size (below_drew1 HBW.out)) HL1.out.1 ?_; intro v2 w2 ho hb; have HOa := Aside0.mk ho; have HBa := Aside0.mk hb; clear ho hb) | (refine step_append_str (w0 := w4) w4.heap.size (by rfl) (.tmp 58) (.tmp 62) 37 9 5 rfl Tryd.underlying37 Tryd.underlying9 info5 v2 ((ints (gapped ((gpT m xs).take k))) ++ bytesOf T) G rfl rfl HOa.out HBa.out (below_size HBa.out) HL1.out.2 ?_; intro v3 w5 ho hb; have HOb := Aside0.mk ho; have HBb := Aside0.mk hb; clear ho hb)))
            have hfe := hFin.out; have ho := HOb.out; simp only [List.append_assoc] at ho hfe; rw [← hfe] at ho; obtain ⟨A3, c3, ev⟩ := own_slice ho; subst ev; have HOd := Aside0.mk ho; clear ho hfe HOb HOa hFin; go_wp2; go_roundw; (case rel => exact ⟨k + 1, A3, c3, by omega, by go_num, rfl, HOd, HBb⟩); (case measure => simp [intOf]; omega)
        · have hmi : ¬ (k : Int) < (m.length : Int) := by omega
          have hgi : gpI m k = 0 := by unfold gpI; rw [if_neg hmk]
          rw [hgi] at hq4 hGb hFin
          clear hgi
          by_cases h3 : xs[k].k = 3
          · have hd3 : (K0 == 3) = true := by rw [hK, h3]; rfl
            have hwd : ints (wdL xs[k].k xs[k].t) = [37] ++ bytesOf T := (by rw [hTb]; unfold wdL; rw [if_pos h3]; rfl); rw [hwd, ← hGb] at hFin; clear hwd hK hTb hGb h3
            go_wp2_with (at_builtin; refine print_append_num (w0 := w4) w4.heap.size rfl (.tmp 49) (.tmp 50) 37 5 .u8 1 rfl Tryd.underlying37 info5 (by decide) (.slice A2 (ints (gapped ((gpT m xs).take k))).length c2) (ints (gapped ((gpT m xs).take k))) 37 rfl rfl HO.out HBW.out (below_size HBW.out) HLN.out ?_; intro v1 w1 ho hb hg hat; have HO1 := Aside0.mk ho; have HB1 := Aside0.mk hb; clear ho hb hg hat)
            have HL1 : Aside0 (((ints (gapped ((gpT m xs).take k)) ++ [37])).length + T.size ≤ 140737488355328 ∧ ((ints (gapped ((gpT m xs).take k)) ++ [37]) ++ bytesOf T).length + G.size ≤ 140737488355328) := (by constructor; have := HLK.out; have e1 := bytesOf_length T; simp only [List.length_append, List.length_cons, List.length_nil]; omega); go_region_held2 (fun W' => W'.cell? ⟨(ad.add (k * 3)).block, (ad.add (k * 3)).off + 1, none⟩ = some (.string T) ∧ W'.cell? ⟨GB, 0, none⟩ = some (.string G)) ((first | exact ⟨pw_cell_below HBb.out hx4, pw_cell_below HBb.out hq4⟩ | exact ⟨pw_cell_below HBa.out hx4, pw_cell_below HBa.out hq4⟩ | exact ⟨pw_cell_below (below_drew1 HB1.out) hx4, pw_cell_below (below_drew1 HB1.out) hq4⟩)) ((first | (refine step_append_str (w0 := w4) w4.heap.size (by rfl) (.tmp 52) (.tmp 57) 37 9 5 rfl Tryd.underlying37 Tryd.underlying9 info5 v1 (ints (gapped ((gpT m xs).take k)) ++ [37]) T rfl rfl (own_drew HO1.out) (below_drew1 HB1.out) (below_size (below_drew1 HB1.out)) HL1.out.1 ?_; intro v2 w2 ho hb; have HOa := Aside0.mk ho; have HBa := Aside0.mk hb; clear ho hb) | (refine step_append_str (w0 := w4) w4.heap.size (by rfl) (.tmp 58) (.tmp 62) 37 9 5 rfl Tryd.underlying37 Tryd.underlying9 info5 v2 ((ints (gapped ((gpT m xs).take k)) ++ [37]) ++ bytesOf T) G rfl rfl HOa.out HBa.out (below_size HBa.out) HL1.out.2 ?_; intro v3 w5 ho hb; have HOb := Aside0.mk ho; have HBb := Aside0.mk hb; clear ho hb)))
            have hfe := hFin.out; have ho := HOb.out; simp only [List.append_assoc] at ho hfe; rw [← hfe] at ho; obtain ⟨A3, c3, ev⟩ := own_slice ho; subst ev; have HOd := Aside0.mk ho; clear ho hfe HOb HOa hFin; go_wp2; go_roundw; (case rel => exact ⟨k + 1, A3, c3, by omega, by go_num, rfl, HOd, HBb⟩); (case measure => simp [intOf]; omega)
          · have hd3 : (K0 == 3) = false := by rw [beq_eq_false_iff_ne, hK]; omega
            have hwd : ints (wdL xs[k].k xs[k].t) = bytesOf T := (by rw [hTb]; unfold wdL; rw [if_neg h3]); rw [hwd, ← hGb] at hFin; clear hwd hK hTb hGb h3
            go_wp2
            have HL1 : Aside0 (((ints (gapped ((gpT m xs).take k)))).length + T.size ≤ 140737488355328 ∧ ((ints (gapped ((gpT m xs).take k))) ++ bytesOf T).length + G.size ≤ 140737488355328) := (by constructor; have := HLK.out; have e1 := bytesOf_length T; simp only [List.length_append]; omega); go_region_held2 (fun W' => W'.cell? ⟨(ad.add (k * 3)).block, (ad.add (k * 3)).off + 1, none⟩ = some (.string T) ∧ W'.cell? ⟨GB, 0, none⟩ = some (.string G)) ((first | exact ⟨pw_cell_below HBb.out hx4, pw_cell_below HBb.out hq4⟩ | exact ⟨pw_cell_below HBa.out hx4, pw_cell_below HBa.out hq4⟩ | exact ⟨pw_cell_below (below_drew1 HBW.out) hx4, pw_cell_below (below_drew1 HBW.out) hq4⟩)) ((first | (refine step_append_str (w0 := w4) w4.heap.size (by rfl) (.tmp 52) (.tmp 57) 37 9 5 rfl Tryd.underlying37 Tryd.underlying9 info5 (.slice A2 (ints (gapped ((gpT m xs).take k))).length c2) (ints (gapped ((gpT m xs).take k))) T rfl rfl (own_drew HO.out) (below_drew1 HBW.out) (below_size (below_drew1 HBW.out)) HL1.out.1 ?_; intro v2 w2 ho hb; have HOa := Aside0.mk ho; have HBa := Aside0.mk hb; clear ho hb) | (refine step_append_str (w0 := w4) w4.heap.size (by rfl) (.tmp 58) (.tmp 62) 37 9 5 rfl Tryd.underlying37 Tryd.underlying9 info5 v2 ((ints (gapped ((gpT m xs).take k))) ++ bytesOf T) G rfl rfl HOa.out HBa.out (below_size HBa.out) HL1.out.2 ?_; intro v3 w5 ho hb; have HOb := Aside0.mk ho; have HBb := Aside0.mk hb; clear ho hb)))
            have hfe := hFin.out; have ho := HOb.out; simp only [List.append_assoc] at ho hfe; rw [← hfe] at ho; obtain ⟨A3, c3, ev⟩ := own_slice ho; subst ev; have HOd := Aside0.mk ho; clear ho hfe HOb HOa hFin; go_wp2; go_roundw; (case rel => exact ⟨k + 1, A3, c3, by omega, by go_num, rfl, HOd, HBb⟩); (case measure => simp [intOf]; omega)
      · have hlti : ¬ (k : Int) < (xs.length : Int) := by omega
        have hke : (gpT m xs).take k = gpT m xs := List.take_of_length_le (by rw [gpT_len]; omega)
        rw [hke] at HO
        have hgb := gapped_bound m xs xs.length H3.out hxl
        rw [List.take_of_length_le (by rw [gpT_len]; omega)] at hgb
        obtain ⟨ys, g1, g2⟩ := lexL_gapped (gpT m xs) 0 0 (fun x hx => by
          obtain ⟨q1, i, q2⟩ := gpT_mem hx
          exact ⟨HX.out _ q1, by rw [q2]; exact gap_ok _ (gpI_lt m i)⟩) (by rw [gpT_len]; omega)
        have hkeys : ys.map tkK = xs.map tkK := by
          rw [g2]
          conv => rhs; rw [← gpT_fst m xs]
          rw [List.map_map]; rfl
        have HL2 := Aside0.mk (lex_at (gapped (gpT m xs)) (by omega))
        rw [g1] at HL2
        have hyl : ys.length = xs.length := by have := congrArg List.length hkeys; simpa using this
        have HK : Aside0 (∀ A B c d (W : World), Kd.C k35 W A xs.length (xs.map tkS) → Kd.C k35 W B ys.length (ys.map tkS) → xs.length ≤ c → ys.length ≤ d → Calls Tryd.prog 26 #[.slice A xs.length c, .slice B xs.length d, .bool false] W fun e w' => e = .returned (.bool true) ∧ Drawn0 W w') := by
          constructor
          intro A B c d W ha hb hc hd
          have := sameT_any (xs.map tkS) (ys.map tkS) false A B c d W (by rw [List.length_map]; omega) (by rw [List.length_map]; exact ha) (by rw [List.length_map]; exact hb) (by rw [List.length_map]; exact hc) (by rw [List.length_map]; exact hd)
          rw [List.length_map, List.length_map, same_of_keys hkeys, hyl] at this
          exact this
        have hcv := own_string (P := Tryd.prog) (src := 37) (dst := 9) Tryd.underlying37 Tryd.underlying5 Tryd.underlying9 HO.out
        rw [str_ints] at hcv
        have hil : (ints (gapped (gpT m xs))).length = (gapped (gpT m xs)).length := by simp [ints]
        have hC5 := Aside0.mk (Kd.C_below HC4.out HBW.out)
        rw [Nat.zero_add] at HL2
        rw [hil] at hcv
        rw [hke, hil]
        generalize (⟨(gapped (gpT m xs)).toArray⟩ : ByteArray) = SB at HL2 hcv
        generalize (gapped (gpT m xs)).length = NB at HL2 hcv hgb ⊢
        clear hke g1 g2 hkeys hil HO
        go_wp2_with (first | (go_at_call 24; (with_reducible refine (HL2.out _).mono ?_); rintro e w6 ⟨A6, c6, rfl, hc6, hC, hb⟩; have HD := Aside0.mk hC; have HC6 := Aside0.mk (Kd.C_below hC5.out hb); have HB6 := Aside0.mk (below_step (below_step HB4.out HBW.out) hb); clear hC hb) | (go_at_call 26; (with_reducible refine (HK.out _ _ _ _ _ HC6.out HD.out hc1 hc6).mono ?_); rintro e w7 ⟨rfl, ⟨nd, rfl⟩⟩) | (go_at_call 19; (with_reducible refine (HA.out _).mono ?_); rintro e w8 ⟨rfl, hb⟩; have HB8 := Aside0.mk (below_step (pw_below_drewN HB6.out _) hb); clear hb))
        go_ret
        exact ⟨rfl, HB8.out⟩
  · have he2 : ((e : Int) == 0) = false := by rw [beq_eq_false_iff_ne]; omega
    have he3 : ((e : Int) != 0) = true := by rw [bne_iff_ne]; omega
    clear h1 h2 h3 h4 hN hWl hr hr' hp he
    go_enter Tryd.func8, Tryd.ntmps8
    go_wp2_with (first | (go_at_call 18; ((with_reducible refine HT.out.mono ?_); rintro e w' ⟨rfl, hb⟩; have HB := Aside0.mk hb; clear hb)) | (go_at_call 24; ((with_reducible refine (HL.out _).mono ?_); rintro e w3 ⟨A1, c1, rfl, hc1, hC, hb⟩; have HB3 := Aside0.mk (below_step HB.out hb); clear hC hb HB)) | (go_at_call 19; (with_reducible refine (HA.out _).mono ?_); rintro e w5 ⟨rfl, hb⟩; have HB5 := Aside0.mk (below_step HB3.out hb); clear hb))
    go_ret
    exact ⟨rfl, HB5.out⟩
end Go.Proofs.YtajefkjcfmfjkaaDoor
