/- The texts of the proof of 'RawForms', joined: each part is a text of its own in wip; what the law does not use is left out. -/
import Derived.Lib.IndexBytes
import Derived.Lib.Strings
import Derived.IntWalk
import Derived.Shelf.Strings.Builder1
import Derived.Shelf.Strings.Builder2
import Derived.Shelf.Strings.OnBuilder
import Derived.Shelf.Small.Strs
import Derived.Shelf.Strings.BuilderF
import Derived.Shelf.Strings.BuilderK
import Derived.Shelf.Strings.Search1
import Derived.Shelf.Strings.Prefix
import Derived.Shelf.Slices.Turned
import Derived.Ground.Names2Prog
import Derived.Shelf.Slices.Clone
import Derived.Ground.SlgnProg
import Derived.Shelf.SlicesE.Clone
import Derived.Test.YtajefkjcfmfjkaaDoorProg
import Derived.Outline
import Derived.Shelf.Abstract
import Derived.Laws.EntriesVeiled
import Derived.Lib.FrozenHead2
import Derived.Lib.OthersKept
import Derived.StillTailTactics
import Derived.Maps.OwnOps
import Derived.Maps.Views
import Derived.Deep.RegionHeld2
import Derived.BigQuiet
import Derived.Deep.RegionHeld3
import Derived.Deep.DeepCutAuto
import Derived.Deep.CutBlock
import Derived.Deep.DrawnRows
import Derived.Deep.RegionLaw
import Derived.WalkSpells
import Derived.ProofKit
import Derived.LaidMore
import Derived.OpenShut
import Derived.SliceStrings
import Derived.Stop.Joined
import Derived.Test.YtajefkjcfmfjkaaDoorWWords
import Derived.WalkKit
import Derived.ShutString
import Derived.ChangeOld
import Derived.Below
import Derived.Test.YtajefkjcfmfjkaaDoorWLast
import Derived.Test.YtajefkjcfmfjkaaDoorWTab
import Derived.Test.YtajefkjcfmfjkaaDoorWFour
import Derived.Test.YtajefkjcfmfjkaaDoorWQPut
import Derived.Test.YtajefkjcfmfjkaaDoorWApart
import Derived.Test.YtajefkjcfmfjkaaDoorWArr
import Derived.Test.YtajefkjcfmfjkaaDoorWZeros
import Derived.Test.YtajefkjcfmfjkaaDoorWFoot
import Derived.Test.YtajefkjcfmfjkaaDoorWKept
import Derived.Test.YtajefkjcfmfjkaaDoorWShare
import Derived.Test.YtajefkjcfmfjkaaDoorWN
import Derived.Test.YtajefkjcfmfjkaaDoorWFootNe
import Derived.Test.YtajefkjcfmfjkaaDoorWAt
import Derived.Test.YtajefkjcfmfjkaaDoorWEqStruct
import Derived.Test.YtajefkjcfmfjkaaDoorWRepsOne
import Derived.Test.YtajefkjcfmfjkaaDoorWInv
import Derived.Test.YtajefkjcfmfjkaaDoorWInvWords
import Derived.Test.YtajefkjcfmfjkaaDoorWGuard
import Derived.Test.YtajefkjcfmfjkaaDoorWNEv
import Derived.Test.YtajefkjcfmfjkaaDoorWMore
import Derived.Test.YtajefkjcfmfjkaaDoorPRawFormsx0
import Derived.Test.YtajefkjcfmfjkaaDoorPRawFormsx1
import Derived.Test.YtajefkjcfmfjkaaDoorPRawFormsx2
import Derived.Test.YtajefkjcfmfjkaaDoorPRawFormsx3
import Derived.Test.YtajefkjcfmfjkaaDoorPRawFormsx4
namespace Go.Proofs.YtajefkjcfmfjkaaDoor
theorem info42 : (Tryd.prog.info? 42).map (fun i => (i.zero, i.size, i.bytes)) = some (some (.agg #[(.int .i64 0), (.string ⟨#[]⟩), (.int .i64 0), (.slice none 0 0)]), 4, 56) := by kernel_rfl
end Go.Proofs.YtajefkjcfmfjkaaDoor
namespace Go.Proofs.YtajefkjcfmfjkaaDoor
section
set_option linter.unusedVariables false
set_option linter.unusedSimpArgs false
set_option linter.deprecated false
/-- how far a class runs -/
def runEnd (p : UInt8 → Bool) (s : ByteArray) (i : Nat) : Nat :=
  if h : i < s.size then if p s[i] then runEnd p s (i + 1) else i else i
termination_by s.size - i
theorem runEnd_stop {p : UInt8 → Bool} {s : ByteArray} {i : Nat} (h : ¬ i < s.size) : runEnd p s i = i := by unfold runEnd; rw [dif_neg h]
theorem runEnd_no {p : UInt8 → Bool} {s : ByteArray} {i : Nat} (h : i < s.size) (hp : p s[i] = false) : runEnd p s i = i := by
  unfold runEnd; rw [dif_pos h, hp]; rfl
theorem runEnd_yes {p : UInt8 → Bool} {s : ByteArray} {i : Nat} (h : i < s.size) (hp : p s[i] = true) : runEnd p s i = runEnd p s (i + 1) := by
  rw [runEnd, dif_pos h, hp]; rfl
/-- the bytes of a text from a place on -/
def sfx (s : ByteArray) (i : Nat) : List UInt8 := s.data.toList.drop i
theorem len_data (s : ByteArray) : s.data.toList.length = s.size := by rw [Array.length_toList]; rfl
theorem sfx_cons (s : ByteArray) (i : Nat) (h : i < s.size) : sfx s i = s[i] :: sfx s (i + 1) := by
  unfold sfx
  have h' : i < s.data.toList.length := by rw [len_data]; exact h
  rw [List.drop_eq_getElem_cons h']
  rfl
def isPunct (c : UInt8) : Bool := c == 40 || c == 41 || c == 91 || c == 93 || c == 123 || c == 125 || c == 58 || c == 46
def isName (c : UInt8) : Bool := decide (33 ≤ c.toNat) && decide (c.toNat ≤ 126) && !isPunct c && c != 37
def isRes (l : List UInt8) : Bool := l == [45, 62] || l == [60, 45] || l == [61] || l == [95] || l == [116, 121, 112, 101]
theorem all_u8 {P : UInt8 → Prop} (h : ∀ n, n < 256 → P (UInt8.ofNat n)) : ∀ c, P c := by
  intro c
  have := h c.toNat c.toNat_lt
  simpa using this
end
end Go.Proofs.YtajefkjcfmfjkaaDoor
namespace Go.Proofs.YtajefkjcfmfjkaaDoor
section
set_option linter.unusedVariables false
set_option linter.unusedSimpArgs false
set_option linter.deprecated false
open Go.RowKit Go.Proofs.YtajefkjcfmfjkaaDoorW.PrintWords Go.Proofs.YtajefkjcfmfjkaaDoor.PRawForms
end
end Go.Proofs.YtajefkjcfmfjkaaDoor
namespace Go.Proofs
section
set_option linter.unusedVariables false
set_option linter.unusedSimpArgs false
set_option linter.deprecated false
open Go.Shelf
def Tryd.lays169_ren : Go.Shelf.Ren := ⟨fun | 169 => 70 | n => n, fun | 70 => 82 | 9 => 9 | 0 => 0 | 72 => 84 | 37 => 37 | 127 => 111 | 3 => 3 | 5 => 5 | n => n, fun | n => n⟩
theorem Tryd.lays169 : Go.Proofs.Lays.n169 Tryd.prog Tryd.lays169_ren := {
  mixed := by kernel_rfl
  f169 := Tryd.func70.trans (congrArg some (by kernel_rfl))
  t0 := Tryd.underlying0
  a0 := Tryd.isAgg0
  z0 := Tryd.sizeOf0
  v0 := Tryd.zeroValue0
  t3 := Tryd.underlying3
  a3 := Tryd.isAgg3
  z3 := Tryd.sizeOf3
  v3 := Tryd.zeroValue3
  t9 := Tryd.underlying9
  a9 := Tryd.isAgg9
  z9 := Tryd.sizeOf9
  v9 := Tryd.zeroValue9
  t37 := Tryd.underlying37
  a37 := Tryd.isAgg37
  z37 := Tryd.sizeOf37
  v37 := Tryd.zeroValue37
  t70 := Tryd.underlying82
  a70 := Tryd.isAgg82
  z70 := Tryd.sizeOf82
  v70 := Tryd.zeroValue82
  t72 := Tryd.underlying84
  a72 := Tryd.isAgg84
  z72 := Tryd.sizeOf84
  v72 := Tryd.zeroValue84
  t127 := Tryd.underlying111
  a127 := Tryd.isAgg111
  z127 := Tryd.sizeOf111
  v127 := Tryd.zeroValue111 }
theorem Tryd.Builder_Extra_169 : Builder.Extra Tryd.prog Tryd.lays169_ren := {
  sizeBuilder := by kernel_rfl
  liesBuilder := by kernel_rfl
  t5 := Tryd.underlying5
  a5 := Tryd.isAgg5
  z5 := Tryd.sizeOf5
  v5 := Tryd.zeroValue5
  infoByte := by kernel_rfl
  cellsByte := by kernel_rfl
  sizeByte := by kernel_rfl
  neB5 := by decide }
def Tryd.lays137_ren : Go.Shelf.Ren := ⟨fun | 137 => 87 | 217 => 106 | 266 => 122 | n => n, fun | 9 => 9 | 5 => 5 | 3 => 3 | n => n, fun | n => n⟩
theorem Tryd.lays137 : Go.Proofs.Lays.n137 Tryd.prog Tryd.lays137_ren := {
  mixed := by kernel_rfl
  f137 := Tryd.func87.trans (congrArg some (by kernel_rfl))
  f217 := Tryd.func106.trans (congrArg some (by kernel_rfl))
  f266 := Tryd.func122.trans (congrArg some (by kernel_rfl))
  t3 := Tryd.underlying3
  a3 := Tryd.isAgg3
  z3 := Tryd.sizeOf3
  v3 := Tryd.zeroValue3
  t5 := Tryd.underlying5
  a5 := Tryd.isAgg5
  z5 := Tryd.sizeOf5
  v5 := Tryd.zeroValue5
  t9 := Tryd.underlying9
  a9 := Tryd.isAgg9
  z9 := Tryd.sizeOf9
  v9 := Tryd.zeroValue9 }
open Go.RowKit in
/-- strings.IndexByte: "IndexByte returns the index of the first instance of c in s, or -1 if c is not present in s.": IT RETURNS 'Lib.indexByte s c'; the world is as it was. (LAID: no walk: one application.) -/
theorem Tryd.strings_IndexByte (s : ByteArray) (c : Int) (w : World) :
    Calls Tryd.prog 87 #[.string s, .int .u8 c] w fun e w' => e = .returned (.int .i64 (Lib.indexByte s.data.toList c.toNat.toUInt8)) ∧ w' = w := Any.strings_IndexByte Tryd.lays137 s c w
open Go.RowKit in
/-- (*strings.Builder).String: "String returns the accumulated string.": WHATEVER THE BUILDER HOLDS; THE FORM '_k': OVER 'Lib.IsBuilderF' (a builder that 'String()' may have read), AND WITH THE FRAME THAT REACHES ABOVE THE BUILDER: 'Lib.OthersKept': every block that is not b and is no row of uint8's stands as it stood: the iterator of a range among them. (LAID: no walk: one application.) -/
theorem Tryd.Builder_String_any_k (B b : Nat) (l : List UInt8) (w : World) (h : Lib.IsBuilderF 84 5 B b (Lib.byteCells l) w) (hBw : B ≤ w.heap.size) :
    Calls Tryd.prog 70 #[.pointer (some ⟨b, 0, none⟩)] w fun e w' => e = .returned (.string ⟨l.toArray⟩) ∧ (Lib.IsBuilderF 84 5 B b (Lib.byteCells l) w' ∧ Below B w w' ∧ Lib.OthersKept 5 (some b) w w') := Any.Builder_String_any_k Tryd.lays169 Tryd.Builder_Extra_169 B b l w h hBw
def Tryd.lays110_ren : Go.Shelf.Ren := ⟨fun | 110 => 69 | 109 => 94 | n => n, fun | 31 => 38 | 9 => 9 | 4 => 4 | 3 => 3 | 0 => 0 | n => n, fun | n => n⟩
theorem Tryd.lays110 : Go.Proofs.Lays.n110 Tryd.prog Tryd.lays110_ren := {
  mixed := by kernel_rfl
  f109 := Tryd.func94.trans (congrArg some (by kernel_rfl))
  f110 := Tryd.func69.trans (congrArg some (by kernel_rfl))
  t0 := Tryd.underlying0
  a0 := Tryd.isAgg0
  z0 := Tryd.sizeOf0
  v0 := Tryd.zeroValue0
  t3 := Tryd.underlying3
  a3 := Tryd.isAgg3
  z3 := Tryd.sizeOf3
  v3 := Tryd.zeroValue3
  t4 := Tryd.underlying4
  a4 := Tryd.isAgg4
  z4 := Tryd.sizeOf4
  v4 := Tryd.zeroValue4
  t9 := Tryd.underlying9
  a9 := Tryd.isAgg9
  z9 := Tryd.sizeOf9
  v9 := Tryd.zeroValue9
  t31 := Tryd.underlying38
  a31 := Tryd.isAgg38
  z31 := Tryd.sizeOf38
  v31 := Tryd.zeroValue38 }
open Go.Lib in
/-- slices.Contains at []string: "Contains reports whether v is present in s.": IT RETURNS 'Lib.containsS (the elements) v', which is true just where v is among them ('Lib.containsS_iff'); the world is as it was. ITS CALLEE slices.Index IS MET BY ITS OWN CONTRACT OFF THE SHELF (lay that first): no loop is walked here. (LAID: no walk: one application.) -/
theorem Tryd.slices_Contains_string (b off n c : Nat) (zs : List ByteArray) (x : ByteArray) (w : World) (hz : n ≤ zs.length) (hbig : n ≤ 9223372036854775807) (hc : ∀ j, j < zs.length → w.cell? ⟨b, off + j, none⟩ = some (.string (zs.getD j ByteArray.empty))) :
    Calls Tryd.prog 69 #[.slice (some ⟨b, off, none⟩) n c, .string x] w fun e w' => e = .returned (.bool (Lib.containsS (zs.take n) x)) ∧ w' = w := Any.slices_Contains_string Tryd.lays110 b off n c zs x w hz hbig hc
open Go.Lib in
/-- The same at a slice of length 0, a nil one too. (LAID: no walk: one application.) -/
theorem Tryd.slices_Contains_string_empty (a : Option Addr) (c : Nat) (x : ByteArray) (w : World) :
    Calls Tryd.prog 69 #[.slice a 0 c, .string x] w fun e w' => e = .returned (.bool false) ∧ w' = w := Any.slices_Contains_string_empty Tryd.lays110 a c x w
end
end Go.Proofs
namespace Go.Proofs.YtajefkjcfmfjkaaDoor
section
set_option linter.unusedVariables false
set_option linter.unusedSimpArgs false
set_option linter.deprecated false
open Go.RowKit Go.Proofs.YtajefkjcfmfjkaaDoorW.PrintWords Go.Proofs.YtajefkjcfmfjkaaDoor.PRawForms
structure Cls (f : FuncId) (p : UInt8 → Bool) : Prop where
  mk :: (out : ∀ (c : UInt8) (w : World), Calls Tryd.prog f #[.int .u8 c.toNat] w fun e w' => e = .returned (.bool (p c)) ∧ Drawn0 w w')
theorem ret_int {k : IntKind} {a b : Int} (h : a = b) : Ending.returned (.int k a) = .returned (.int k b) := by rw [h]
theorem ret_bool {a b : Bool} (h : a = b) : Ending.returned (.bool a) = .returned (.bool b) := by rw [h]
set_option maxHeartbeats 800000 in
set_option maxRecDepth 100000 in
theorem run_any (p : UInt8 → Bool) (f : FuncId) (hf : Cls f p) (eg : ∀ args w, (callFunc f args).run Tryd.prog w = .ok (.enter f args) w)
    (s : ByteArray) (i : Nat) (w : World) (hs : s.size ≤ 9223372036854775800) (hi : i ≤ s.size) :
    Calls Tryd.prog 52 #[.string s, .int .i64 i, .func (.func f) #[] #[]] w fun e w' => e = .returned (.int .i64 (runEnd p s i)) ∧ Drawn0 w w' := by
  go_enter Tryd.func52, Tryd.ntmps52
  go_wp2
  go_loopw [1] (fun v w' => ∃ k : Nat, k ≤ s.size ∧ v = .int .i64 k ∧ Aside0 (runEnd p s k = runEnd p s i) ∧ Drawn0 w w') (fun v _ => s.size - (intOf v).toNat)
  case atStart => exact ⟨i, hi, rfl, ⟨rfl⟩, Drawn0.refl _⟩
  case round =>
    obtain ⟨k, hk, rfl, hr, hd⟩ := hrel
    by_cases hlt : k < s.size
    · have hcall := hf.out s[k]
      have hcall' : Aside0 (∀ w : World, Calls Tryd.prog f #[.int .u8 s[k].toNat] w fun e w' => e = .returned (.bool (p s[k])) ∧ Drawn0 w w') := ⟨hcall⟩
      clear hcall
      cases hq : p s[k] with
      | true =>
        rw [hq] at hcall'
        have H1 := Aside0.mk hq
        clear hq
        go_wp2_with (go_at_fn f; refine (hcall'.out _).mono ?_; rintro e w' ⟨rfl, ⟨nd, rfl⟩⟩)
        go_roundw
        case rel => exact ⟨k + 1, by omega, by go_num, ⟨(runEnd_yes hlt H1.out).symm.trans hr.out⟩, hd.step _⟩
        case measure => simp [intOf]; omega
      | false =>
        rw [hq] at hcall'
        have H1 := Aside0.mk hq
        clear hq
        go_wp2_with (go_at_fn f; refine (hcall'.out _).mono ?_; rintro e w' ⟨rfl, ⟨nd, rfl⟩⟩)
        go_ret
        exact ⟨ret_int (by rw [← hr.out, runEnd_no hlt H1.out]), hd.step _⟩
    · go_wp2
      go_ret
      exact ⟨ret_int (by rw [← hr.out, runEnd_stop hlt]), hd⟩
theorem nameByte_any (c : UInt8) (w : World) : Calls Tryd.prog 53 #[.int .u8 c.toNat] w fun e w' => e = .returned (.bool (isName c)) ∧ Drawn0 w w' := by
  by_cases h1 : 32 < c.toNat
  · have a1 : decide ((32 : Int) < c.toNat) = true := decide_eq_true (by omega)
    by_cases h2 : c.toNat < 127
    · have a2 : decide ((c.toNat : Int) < 127) = true := decide_eq_true (by omega)
      have hc := Aside0.mk (Tryd.strings_IndexByte ⟨#[40, 41, 91, 93, 123, 125, 58, 46, 37]⟩ c.toNat)
      have H : Aside0 (decide (Lib.indexByte [40, 41, 91, 93, 123, 125, 58, 46, 37] c < 0) = isName c) := by
        constructor
        clear hc a1 a2
        revert c; apply all_u8; decide +kernel
      go_enter Tryd.func53, Tryd.ntmps53
      go_wp2_with (go_at_call 87; refine (hc.out _).mono ?_; rintro e w' ⟨rfl, rfl⟩)
      go_ret
      exact ⟨ret_bool H.out, Drawn0.refl _⟩
    · have a2 : decide ((c.toNat : Int) < 127) = false := decide_eq_false (by omega)
      have H : isName c = false := by simp [isName]; omega
      rw [H]
      go_enter Tryd.func53, Tryd.ntmps53
      go_wp2
      go_ret
      exact ⟨rfl, Drawn0.refl _⟩
  · have a1 : decide ((32 : Int) < c.toNat) = false := decide_eq_false (by omega)
    have H : isName c = false := by simp [isName]; omega
    rw [H]
    go_enter Tryd.func53, Tryd.ntmps53
    go_wp2
    go_ret
    exact ⟨rfl, Drawn0.refl _⟩
theorem cls_name : Cls 53 isName := ⟨nameByte_any⟩
end
end Go.Proofs.YtajefkjcfmfjkaaDoor
namespace Go.Proofs.YtajefkjcfmfjkaaDoor
section
set_option linter.unusedVariables false
set_option linter.unusedSimpArgs false
set_option linter.deprecated false
open Go.RowKit Go.Proofs.YtajefkjcfmfjkaaDoorW.PrintWords Go.Proofs.YtajefkjcfmfjkaaDoor.PRawForms
theorem eg53 : ∀ args w, (callFunc 53 args).run Tryd.prog w = .ok (.enter 53 args) w := enters_of Tryd.func53 (by kernel_rfl) rfl
end
end Go.Proofs.YtajefkjcfmfjkaaDoor
namespace Go.Proofs.YtajefkjcfmfjkaaDoor
section
set_option linter.unusedVariables false
set_option linter.unusedSimpArgs false
set_option linter.deprecated false
open Go.RowKit Go.Proofs.YtajefkjcfmfjkaaDoorW.PrintWords Go.Proofs.YtajefkjcfmfjkaaDoor.PRawForms
/-- is a text a name -/
def nameS (s : ByteArray) : Bool := decide (0 < s.size) && decide (s.size ≤ 64) && (runEnd isName s 0 == s.size) && !isRes s.data.toList && (sfx s 0).head? != some 64
theorem reserved_any (s : ByteArray) (w : World) : Calls Tryd.prog 54 #[.string s] w fun e w' => e = .returned (.bool (isRes s.data.toList)) ∧ Drawn0 w w' := by
  have e : isRes s.data.toList = isRes s.toList := by rw [Lib.toList_data]
  rw [e]
  clear e
  have hd : ∀ n, Drawn0 w (w.drewN n) := fun n => Drawn0.step (Drawn0.refl w) n
  cases h1 : s.toList == ([45, 62] : List UInt8) with
  | true =>
    have hv : isRes s.toList = true := by simp [isRes, h1]
    rw [hv]
    clear hv
    go_enter Tryd.func54, Tryd.ntmps54
    go_wp2
    go_ret
    exact ⟨rfl, by repeat (first | exact Drawn0.refl _ | apply Drawn0.step)⟩
  | false =>
    cases h2 : s.toList == ([60, 45] : List UInt8) with
    | true =>
      have hv : isRes s.toList = true := by simp [isRes, h1, h2]
      rw [hv]
      clear hv
      go_enter Tryd.func54, Tryd.ntmps54
      go_wp2
      go_ret
      exact ⟨rfl, by repeat (first | exact Drawn0.refl _ | apply Drawn0.step)⟩
    | false =>
      cases h3 : s.toList == ([61] : List UInt8) with
      | true =>
        have hv : isRes s.toList = true := by simp [isRes, h1, h2, h3]
        rw [hv]
        clear hv
        go_enter Tryd.func54, Tryd.ntmps54
        go_wp2
        go_ret
        exact ⟨rfl, by repeat (first | exact Drawn0.refl _ | apply Drawn0.step)⟩
      | false =>
        cases h4 : s.toList == ([95] : List UInt8) with
        | true =>
          have hv : isRes s.toList = true := by simp [isRes, h1, h2, h3, h4]
          rw [hv]
          clear hv
          go_enter Tryd.func54, Tryd.ntmps54
          go_wp2
          go_ret
          exact ⟨rfl, by repeat (first | exact Drawn0.refl _ | apply Drawn0.step)⟩
        | false =>
          cases h5 : s.toList == ([116, 121, 112, 101] : List UInt8) with
          | true =>
            have hv : isRes s.toList = true := by simp [isRes, h1, h2, h3, h4, h5]
            rw [hv]
            clear hv
            go_enter Tryd.func54, Tryd.ntmps54
            go_wp2
            go_ret
            exact ⟨rfl, by repeat (first | exact Drawn0.refl _ | apply Drawn0.step)⟩
          | false =>
            have hv : isRes s.toList = false := by simp [isRes, h1, h2, h3, h4, h5]
            rw [hv]
            clear hv
            go_enter Tryd.func54, Tryd.ntmps54
            go_wp2
            go_ret
            exact ⟨rfl, by repeat (first | exact Drawn0.refl _ | apply Drawn0.step)⟩
theorem size_zero {s : ByteArray} (h : s.size = 0) : s = ⟨#[]⟩ := by
  apply ByteArray.ext
  exact Array.eq_empty_of_size_eq_zero h
theorem toList_nil {s : ByteArray} (h : s.size ≠ 0) : s.toList ≠ [] := by
  rw [Lib.toList_data]
  intro h2
  apply h
  have := len_data s
  rw [h2] at this
  exact this.symm
theorem run_name0 (s : ByteArray) (hs : s.size ≤ 9223372036854775800) (w : World) : Calls Tryd.prog 52 #[.string s, .int .i64 0, .func (.func 53) #[] #[]] w fun e w' => e = .returned (.int .i64 (runEnd isName s 0)) ∧ Drawn0 w w' :=
  run_any isName 53 cls_name eg53 s 0 w hs (Nat.zero_le _)
set_option maxHeartbeats 1600000 in
set_option maxRecDepth 100000 in
theorem isName_any (s : ByteArray) (w : World) (hs : s.size ≤ 9223372036854775800) :
    Calls Tryd.prog 20 #[.string s] w fun e w' => e = .returned (.bool (nameS s)) ∧ Drawn0 w w' := by
  by_cases h0 : s.size = 0
  · have := size_zero h0
    subst this
    go_enter Tryd.func20, Tryd.ntmps20
    go_wp2
    go_ret
    exact ⟨rfl, Drawn0.refl _⟩
  · have h00 := toList_nil h0
    have h01 : s.toList.isEmpty = false := by cases h : s.toList with | nil => exact absurd h h00 | cons => rfl
    have h02 : (!s.toList.isEmpty) = true := by rw [h01]; rfl
    by_cases h1 : s.size ≤ 64
    · have hd1 : decide ((s.size : Int) ≤ 64) = true := decide_eq_true (by omega)
      have HR := Aside0.mk (run_name0 s hs)
      have HS := Aside0.mk (reserved_any s)
      have hp : 0 < s.size := by omega
      by_cases h2 : runEnd isName s 0 = s.size
      · have h3 : ((runEnd isName s 0 : Int) == (s.size : Int)) = true := by rw [h2, beq_self_eq_true]
        cases hr : isRes s.data.toList with
        | true =>
          rw [hr] at HS
          have hn : nameS s = false := by simp [nameS, hr]
          rw [hn]
          clear hn h2 h0 h00 hr
          go_enter Tryd.func20, Tryd.ntmps20
          go_wp2_with (first | (go_at_call 52; (with_reducible refine (HR.out _).mono ?_); rintro e w' ⟨rfl, ⟨nd, rfl⟩⟩) | (go_at_call 54; (with_reducible refine (HS.out _).mono ?_); rintro e w' ⟨rfl, ⟨nd2, rfl⟩⟩))
          go_ret
          exact ⟨rfl, by repeat (first | exact Drawn0.refl _ | apply Drawn0.step)⟩
        | false =>
          rw [hr] at HS
          have hn : nameS s = ((s[0].toNat : Int) != 64) := by
            simp only [nameS, hp, h1, h2, hr, sfx_cons s 0 hp, decide_true, Bool.true_and, beq_self_eq_true, Bool.not_false, List.head?_cons]
            rw [Bool.eq_iff_iff, bne_iff_ne, bne_iff_ne]
            constructor
            · intro h4 h5; exact h4 (by rw [UInt8.toNat_inj.1 (show s[0].toNat = (64 : UInt8).toNat by simpa using Int.ofNat.inj h5)])
            · intro h4 h5; apply h4; injection h5 with h5; rw [h5]; rfl
          rw [hn]
          clear hn h2 h0 h00 hr
          go_enter Tryd.func20, Tryd.ntmps20
          go_wp2_with (first | (go_at_call 52; (with_reducible refine (HR.out _).mono ?_); rintro e w' ⟨rfl, ⟨nd, rfl⟩⟩) | (go_at_call 54; (with_reducible refine (HS.out _).mono ?_); rintro e w' ⟨rfl, ⟨nd2, rfl⟩⟩))
          go_ret
          exact ⟨rfl, by repeat (first | exact Drawn0.refl _ | apply Drawn0.step)⟩
      · have h3 : ((runEnd isName s 0 : Int) == (s.size : Int)) = false := by rw [beq_eq_false_iff_ne]; omega
        have hn : nameS s = false := by simp [nameS, h2]
        rw [hn]
        clear hn h2 h0 h00
        go_enter Tryd.func20, Tryd.ntmps20
        go_wp2_with (first | (go_at_call 52; (with_reducible refine (HR.out _).mono ?_); rintro e w' ⟨rfl, ⟨nd, rfl⟩⟩))
        go_ret
        exact ⟨rfl, by repeat (first | exact Drawn0.refl _ | apply Drawn0.step)⟩
    · have hd1 : decide ((s.size : Int) ≤ 64) = false := decide_eq_false (by omega)
      have hn : nameS s = false := by simp [nameS, h1]
      rw [hn]
      clear hn
      go_enter Tryd.func20, Tryd.ntmps20
      go_wp2
      go_ret
      exact ⟨rfl, Drawn0.refl _⟩
end
end Go.Proofs.YtajefkjcfmfjkaaDoor
namespace Go.Proofs.YtajefkjcfmfjkaaDoor
section
set_option linter.unusedVariables false
set_option linter.unusedSimpArgs false
set_option linter.deprecated false
open Go.RowKit Go.Proofs.YtajefkjcfmfjkaaDoorW.PrintWords Go.Proofs.YtajefkjcfmfjkaaDoor.PRawForms
mutual
def szT : S42 → Nat
  | ⟨_, _, _, l⟩ => 1 + szL l
def szL : List S42 → Nat
  | [] => 0
  | x :: xs => szT x + szL xs
end
mutual
def dpT : S42 → Nat
  | ⟨_, _, _, l⟩ => dpL l + 1
def dpL : List S42 → Nat
  | [] => 0
  | x :: xs => max (dpT x) (dpL xs)
end
/-- strings that are equal -/
def eqB (a b : ByteArray) : Bool := decide (a.data.toList = b.data.toList)
theorem eqB_iff (a b : ByteArray) : eqB a b = true ↔ a = b := by
  unfold eqB
  rw [decide_eq_true_eq]
  constructor
  · intro h; cases a; cases b; simp at h; rw [h]
  · intro h; rw [h]
theorem eqB_self (a : ByteArray) : eqB a a = true := (eqB_iff a a).2 rfl
theorem eqB_ne {a b : ByteArray} (h : a ≠ b) : eqB a b = false := by rw [Bool.eq_false_iff]; exact fun h2 => h ((eqB_iff a b).1 h2)
/-- the form of a node: its kind, its name, how many parts -/
def nodeS (k : Int) (n : ByteArray) (m : Nat) : Bool :=
  if k = 1 ∨ k = 2 then nameS n && m == 0
  else if k = 3 ∨ k = 4 then eqB n ⟨#[]⟩ && m == 0
  else if k = 5 ∨ k = 6 ∨ k = 9 then eqB n ⟨#[]⟩ && m == 2
  else if k = 7 ∨ k = 8 then (nameS n || eqB n ⟨#[95]⟩) && (m == 1 || m == 2)
  else false
mutual
def fmT : S42 → Bool
  | ⟨k, n, _, l⟩ => nodeS k n l.length && fmL l
def fmL : List S42 → Bool
  | [] => true
  | x :: xs => fmT x && fmL xs
end
mutual
def smT (at_ : Bool) : S42 → S42 → Bool
  | ⟨k, n, o, l⟩, b => (k == b.f0 && eqB n b.f1 && (!at_ || o == b.f2)) && smL at_ l b.f3
def smL (at_ : Bool) : List S42 → List S42 → Bool
  | [], [] => true
  | x :: xs, y :: ys => smT at_ x y && smL at_ xs ys
  | _, _ => false
end
theorem szT_eq (t : S42) : szT t = 1 + szL t.f3 := by cases t; rw [szT]
theorem dpT_eq (t : S42) : dpT t = dpL t.f3 + 1 := by cases t; rw [dpT]
theorem fmT_eq (t : S42) : fmT t = (nodeS t.f0 t.f1 t.f3.length && fmL t.f3) := by cases t; rw [fmT]
theorem smT_eq (at_ : Bool) (t b : S42) : smT at_ t b = ((t.f0 == b.f0 && eqB t.f1 b.f1 && (!at_ || t.f2 == b.f2)) && smL at_ t.f3 b.f3) := by cases t; rw [smT]
theorem szT_pos (t : S42) : 0 < szT t := by rw [szT_eq]; omega
theorem szL_mem {x : S42} {l : List S42} (h : x ∈ l) : szT x ≤ szL l := by
  induction l with
  | nil => simp at h
  | cons y ys ih =>
    rw [szL]
    rcases List.mem_cons.1 h with rfl | h
    · omega
    · have := ih h; omega
theorem szL_len (l : List S42) : l.length ≤ szL l := by
  induction l with
  | nil => simp
  | cons y ys ih => rw [szL]; have := szT_pos y; simp only [List.length_cons]; omega
theorem fmL_all (l : List S42) : fmL l = l.all fmT := by
  induction l with
  | nil => rfl
  | cons y ys ih => rw [fmL, ih]; rfl
theorem dp_le_sz (n : Nat) : ∀ t : S42, szT t ≤ n → dpT t ≤ szT t := by
  induction n with
  | zero => intro t h; have := szT_pos t; omega
  | succ n ih =>
    intro t h
    rw [szT_eq] at h ⊢
    rw [dpT_eq]
    have : ∀ l : List S42, szL l ≤ n → dpL l ≤ szL l := by
      intro l
      induction l with
      | nil => intro _; simp [dpL]
      | cons y ys ih2 =>
        intro hl
        rw [szL] at hl ⊢
        rw [dpL]
        have h1 := ih y (by omega)
        have h2 := ih2 (by omega)
        omega
    have := this t.f3 (by omega)
    omega
theorem rdT_get {l : List S42} {i : Nat} (h : i < l.length) : rd_T42 l (i : Int) = l[i] := by
  simp [rd_T42, List.getD_eq_getElem?_getD, List.getElem?_eq_getElem h]
theorem rdT_mem {l : List S42} {i : Nat} (h : i < l.length) : rd_T42 l (i : Int) ∈ l := by
  rw [rdT_get h]; exact List.getElem_mem h
theorem drop_rd {l : List S42} {i : Nat} (h : i < l.length) : l.drop i = rd_T42 l (i : Int) :: l.drop (i + 1) := by
  rw [rdT_get h]; exact List.drop_eq_getElem_cons h
theorem w64p {x : Int} (h : 0 ≤ x) (h2 : x ≤ 9223372036854775807) : wrap64 x = x := by unfold wrap64; omega
theorem size_ev (n : Nat) : ∀ t : S42, szT t ≤ n → n ≤ 1000000000 → Ev (fun k => raw_Size.f k t.f0 t.f1 t.f2 t.f3) (szT t : Int) := by
  induction n with
  | zero => intro t h; have := szT_pos t; omega
  | succ n ih =>
    intro t h hn
    rw [szT_eq] at h
    have loop : ∀ (d i : Nat) (a : Nat), t.f3.length - i ≤ d → i ≤ t.f3.length → a + szL (t.f3.drop i) ≤ 1000000000 →
        Ev (fun k => raw_Size.l0 k (a : Int) t.f3 (t.f3.length : Int) (i : Int)) ((a + szL (t.f3.drop i) : Nat) : Int) := by
      intro d
      induction d with
      | zero =>
        intro i a hd hi hb
        obtain rfl : i = t.f3.length := by omega
        rw [List.drop_length, szL]
        refine Ev.step (fun k => ?_) (Ev.now _)
        simp only [raw_Size.l0]; rw [if_neg (by omega)]; simp
      | succ d ihd =>
        intro i a hd hi hb
        by_cases hlt : i < t.f3.length
        · rw [drop_rd hlt, szL] at hb ⊢
          have hl := szL_len t.f3
          refine Ev.step (f := fun k => (raw_Size.f k (rd_T42 t.f3 i).f0 (rd_T42 t.f3 i).f1 (rd_T42 t.f3 i).f2 (rd_T42 t.f3 i).f3).bind fun s => raw_Size.l0 k (wrap64 ((a : Int) + s)) t.f3 (t.f3.length : Int) (wrap64 ((i : Int) + 1))) (fun k => ?_) ?_
          · simp only [raw_Size.l0]; rw [if_pos (by omega), if_pos (by omega), if_pos (by omega)]
          · refine Ev.bind (f := fun k s => raw_Size.l0 k (wrap64 ((a : Int) + s)) t.f3 (t.f3.length : Int) (wrap64 ((i : Int) + 1))) (ih _ (Nat.le_trans (szL_mem (rdT_mem hlt)) (by omega)) (by omega)) ?_
            rw [w64p (by omega) (by omega), w64p (by omega) (by omega)]
            have := ihd (i + 1) (a + szT (rd_T42 t.f3 i)) (by omega) (by omega) (by omega)
            push_cast at this ⊢
            rw [Int.add_assoc] at this
            exact this
        · obtain rfl : i = t.f3.length := by omega
          rw [List.drop_length, szL]
          refine Ev.step (fun k => ?_) (Ev.now _)
          simp only [raw_Size.l0]; rw [if_neg (by omega)]; simp
    rw [szT_eq]
    refine Ev.step (fun k => ?_) (loop t.f3.length 0 1 (by omega) (by omega) (by rw [List.drop_zero]; omega))
    simp only [raw_Size.f]; rfl
theorem rsize_ev (n : Nat) : ∀ t : S42, szT t ≤ n → n ≤ 1000000000 → Ev (fun k => lfcheckref02_Size.f k t.f0 t.f1 t.f2 t.f3) (szT t : Int) := by
  induction n with
  | zero => intro t h; have := szT_pos t; omega
  | succ n ih =>
    intro t h hn
    rw [szT_eq] at h
    have loop : ∀ (d i : Nat) (a : Nat), t.f3.length - i ≤ d → i ≤ t.f3.length → a + szL (t.f3.drop i) ≤ 1000000000 →
        Ev (fun k => lfcheckref02_Size.l0 k (a : Int) (i : Int) t.f0 t.f1 t.f2 t.f3) ((a + szL (t.f3.drop i) : Nat) : Int) := by
      intro d
      induction d with
      | zero =>
        intro i a hd hi hb
        obtain rfl : i = t.f3.length := by omega
        rw [List.drop_length, szL]
        refine Ev.step (fun k => ?_) (Ev.now _)
        simp only [lfcheckref02_Size.l0]; rw [if_neg (by omega)]; simp
      | succ d ihd =>
        intro i a hd hi hb
        by_cases hlt : i < t.f3.length
        · rw [drop_rd hlt, szL] at hb ⊢
          have hl := szL_len t.f3
          refine Ev.step (f := fun k => (lfcheckref02_Size.f k (rd_T42 t.f3 i).f0 (rd_T42 t.f3 i).f1 (rd_T42 t.f3 i).f2 (rd_T42 t.f3 i).f3).bind fun s => lfcheckref02_Size.l0 k (wrap64 ((a : Int) + s)) (wrap64 ((i : Int) + 1)) t.f0 t.f1 t.f2 t.f3) (fun k => ?_) ?_
          · simp only [lfcheckref02_Size.l0]; rw [if_pos (by omega), if_pos (by omega)]
          · refine Ev.bind (f := fun k s => lfcheckref02_Size.l0 k (wrap64 ((a : Int) + s)) (wrap64 ((i : Int) + 1)) t.f0 t.f1 t.f2 t.f3) (ih _ (Nat.le_trans (szL_mem (rdT_mem hlt)) (by omega)) (by omega)) ?_
            rw [w64p (by omega) (by omega), w64p (by omega) (by omega)]
            have := ihd (i + 1) (a + szT (rd_T42 t.f3 i)) (by omega) (by omega) (by omega)
            push_cast at this ⊢
            rw [Int.add_assoc] at this
            exact this
        · obtain rfl : i = t.f3.length := by omega
          rw [List.drop_length, szL]
          refine Ev.step (fun k => ?_) (Ev.now _)
          simp only [lfcheckref02_Size.l0]; rw [if_neg (by omega)]; simp
    rw [szT_eq]
    refine Ev.step (fun k => ?_) (loop t.f3.length 0 1 (by omega) (by omega) (by rw [List.drop_zero]; omega))
    simp only [lfcheckref02_Size.f]; rfl
theorem mx_nat (a b : Nat) : mx (a : Int) (b : Int) = ((max a b : Nat) : Int) := by unfold mx; omega
theorem depth_ev (n : Nat) : ∀ t : S42, szT t ≤ n → n ≤ 1000000000 → Ev (fun k => raw_Depth.f k t.f0 t.f1 t.f2 t.f3) (dpT t : Int) := by
  induction n with
  | zero => intro t h; have := szT_pos t; omega
  | succ n ih =>
    intro t h hn
    rw [szT_eq] at h
    have hl := szL_len t.f3
    have loop : ∀ (d i : Nat) (a : Nat), t.f3.length - i ≤ d → i ≤ t.f3.length → a ≤ 1000000000 →
        Ev (fun k => raw_Depth.l0 k (a : Int) t.f3 (t.f3.length : Int) (i : Int)) ((max a (dpL (t.f3.drop i)) + 1 : Nat) : Int) := by
      intro d
      induction d with
      | zero =>
        intro i a hd hi hb
        obtain rfl : i = t.f3.length := by omega
        rw [List.drop_length, dpL]
        refine Ev.step (fun k => ?_) (Ev.now _)
        simp only [raw_Depth.l0]; rw [if_neg (by omega), w64p (by omega) (by omega)]; simp
      | succ d ihd =>
        intro i a hd hi hb
        by_cases hlt : i < t.f3.length
        · rw [drop_rd hlt, dpL]
          have hm := szL_mem (rdT_mem hlt)
          have hds := dp_le_sz _ (rd_T42 t.f3 i) (Nat.le_refl _)
          refine Ev.step (f := fun k => (raw_Depth.f k (rd_T42 t.f3 i).f0 (rd_T42 t.f3 i).f1 (rd_T42 t.f3 i).f2 (rd_T42 t.f3 i).f3).bind fun s => raw_Depth.l0 k (mx (a : Int) s) t.f3 (t.f3.length : Int) (wrap64 ((i : Int) + 1))) (fun k => ?_) ?_
          · simp only [raw_Depth.l0]; rw [if_pos (by omega), if_pos (by omega), if_pos (by omega)]
          · refine Ev.bind (f := fun k s => raw_Depth.l0 k (mx (a : Int) s) t.f3 (t.f3.length : Int) (wrap64 ((i : Int) + 1))) (ih _ (Nat.le_trans hm (by omega)) (by omega)) ?_
            rw [w64p (by omega) (by omega), mx_nat]
            have := ihd (i + 1) (max a (dpT (rd_T42 t.f3 i))) (by omega) (by omega) (by omega)
            rw [Nat.max_assoc] at this
            exact this
        · obtain rfl : i = t.f3.length := by omega
          rw [List.drop_length, dpL]
          refine Ev.step (fun k => ?_) (Ev.now _)
          simp only [raw_Depth.l0]; rw [if_neg (by omega), w64p (by omega) (by omega)]; simp
    rw [dpT_eq]
    have := loop t.f3.length 0 0 (by omega) (by omega) (by omega)
    rw [List.drop_zero, Nat.zero_max] at this
    refine Ev.step (fun k => ?_) this
    simp only [raw_Depth.f]; rfl
theorem rdepth_ev (n : Nat) : ∀ t : S42, szT t ≤ n → n ≤ 1000000000 → Ev (fun k => lfcheckref02_Depth.f k t.f0 t.f1 t.f2 t.f3) (dpT t : Int) := by
  induction n with
  | zero => intro t h; have := szT_pos t; omega
  | succ n ih =>
    intro t h hn
    rw [szT_eq] at h
    have hl := szL_len t.f3
    have loop : ∀ (d i : Nat) (a : Nat), t.f3.length - i ≤ d → i ≤ t.f3.length → a ≤ 1000000000 →
        Ev (fun k => lfcheckref02_Depth.l0 k (a : Int) (i : Int) t.f0 t.f1 t.f2 t.f3) ((max a (dpL (t.f3.drop i)) + 1 : Nat) : Int) := by
      intro d
      induction d with
      | zero =>
        intro i a hd hi hb
        obtain rfl : i = t.f3.length := by omega
        rw [List.drop_length, dpL]
        refine Ev.step (fun k => ?_) (Ev.now _)
        simp only [lfcheckref02_Depth.l0]; rw [if_neg (by omega), w64p (by omega) (by omega)]; simp
      | succ d ihd =>
        intro i a hd hi hb
        by_cases hlt : i < t.f3.length
        · rw [drop_rd hlt, dpL]
          have hm := szL_mem (rdT_mem hlt)
          have hds := dp_le_sz _ (rd_T42 t.f3 i) (Nat.le_refl _)
          refine Ev.step (f := fun k => (lfcheckref02_Depth.f k (rd_T42 t.f3 i).f0 (rd_T42 t.f3 i).f1 (rd_T42 t.f3 i).f2 (rd_T42 t.f3 i).f3).bind fun s => lfcheckref02_Depth.l0 k (mx (a : Int) s) (wrap64 ((i : Int) + 1)) t.f0 t.f1 t.f2 t.f3) (fun k => ?_) ?_
          · simp only [lfcheckref02_Depth.l0]; rw [if_pos (by omega), if_pos (by omega)]
          · refine Ev.bind (f := fun k s => lfcheckref02_Depth.l0 k (mx (a : Int) s) (wrap64 ((i : Int) + 1)) t.f0 t.f1 t.f2 t.f3) (ih _ (Nat.le_trans hm (by omega)) (by omega)) ?_
            rw [w64p (by omega) (by omega), mx_nat]
            have := ihd (i + 1) (max a (dpT (rd_T42 t.f3 i))) (by omega) (by omega) (by omega)
            rw [Nat.max_assoc] at this
            exact this
        · obtain rfl : i = t.f3.length := by omega
          rw [List.drop_length, dpL]
          refine Ev.step (fun k => ?_) (Ev.now _)
          simp only [lfcheckref02_Depth.l0]; rw [if_neg (by omega), w64p (by omega) (by omega)]; simp
    rw [dpT_eq]
    have := loop t.f3.length 0 0 (by omega) (by omega) (by omega)
    rw [List.drop_zero, Nat.zero_max] at this
    refine Ev.step (fun k => ?_) this
    simp only [lfcheckref02_Depth.f]; rfl
theorem str_eq_iff (a b : ByteArray) : a.toList = b.toList ↔ a = b := by
  rw [Lib.toList_data, Lib.toList_data]
  constructor
  · intro h; cases a; cases b; simp at h; rw [h]
  · intro h; rw [h]
theorem nb_f : ∀ c : UInt8, lfcheckref01_nameByte.f (c.toNat : Int) = some (isName c) := by
  apply all_u8; decide +kernel
theorem bt_idx (s : ByteArray) (i : Nat) (h : i < s.size) : bt s (i : Int) = (s[i].toNat : Int) := by
  unfold bt; rw [dif_pos (by simpa using h)]; rfl
theorem res_f (s : ByteArray) : lfcheckref01_reserved.f s = some (isRes s.data.toList) := by
  unfold lfcheckref01_reserved.f
  rw [Lib.toList_data]
  generalize s.data.toList = l
  unfold isRes
  by_cases h1 : l = [45, 62]
  · rw [if_pos h1, h1]; rfl
  · rw [if_neg h1]
    by_cases h2 : l = [60, 45]
    · rw [if_pos h2, h2]; rfl
    · rw [if_neg h2]
      by_cases h3 : l = [61]
      · rw [if_pos h3, h3]; rfl
      · rw [if_neg h3]
        by_cases h4 : l = [95]
        · rw [if_pos h4, h4]; rfl
        · rw [if_neg h4]; congr 1; simp [h1, h2, h3, h4]
theorem bt_eq (s : ByteArray) (h : 0 < s.size) (n : UInt8) : (bt s 0 == (n.toNat : Int)) = ((sfx s 0).head? == some n) := by
  have e : bt s 0 = (s[0].toNat : Int) := bt_idx s 0 h
  rw [e, sfx_cons s 0 h, List.head?_cons, Bool.eq_iff_iff, beq_iff_eq, beq_iff_eq]
  constructor
  · intro h; exact congrArg some (UInt8.toNat_inj.1 (Int.ofNat.inj h))
  · intro h; injection h with h; rw [h]
theorem isName_ev (s : ByteArray) : Ev (fun k => lfcheckref01_IsName.f k s) (nameS s) := by
  have j0T : Ev (fun k => lfcheckref01_IsName.j0 k s true) false := by
    refine Ev.step (fun k => ?_) (Ev.now _)
    simp only [lfcheckref01_IsName.j0, if_true]
  by_cases h0 : s.size = 0
  · refine Ev.congr (fun k => ?_) (show Ev _ (nameS s) by rw [show nameS s = false by simp [nameS, h0]]; exact j0T)
    unfold lfcheckref01_IsName.f; rw [if_pos (by omega)]
  by_cases h1 : 64 < s.size
  · refine Ev.congr (fun k => ?_) (show Ev _ (nameS s) by rw [show nameS s = false by simp [nameS]; omega]; exact j0T)
    unfold lfcheckref01_IsName.f; rw [if_neg (by omega), if_pos (by omega)]
  have hf : ∀ k, lfcheckref01_IsName.f k s = if isRes s.data.toList = true then lfcheckref01_IsName.j0 k s true else lfcheckref01_IsName.j0 k s (bt s 0 == 64) := by
    intro k
    unfold lfcheckref01_IsName.f; rw [if_neg (by omega), if_neg (by omega), res_f]
    simp only [Option.bind_some]
    rw [if_pos (show (0 : Int) < (s.size : Int) by omega)]
  cases hr : isRes s.data.toList with
  | true =>
    refine Ev.congr (fun k => ?_) (show Ev _ (nameS s) by rw [show nameS s = false by simp [nameS, hr]]; exact j0T)
    rw [hf, hr, if_pos rfl]
  | false =>
    have hb := bt_eq s (by omega) 64
    have hb' : (bt s 0 == 64) = ((sfx s 0).head? == some 64) := hb
    cases h64 : ((sfx s 0).head? == some 64) with
    | true =>
      refine Ev.congr (fun k => ?_) (show Ev _ (nameS s) by rw [show nameS s = false by simp [nameS, bne, h64]]; exact j0T)
      rw [hf, hr, if_neg (by simp), hb', h64]
    | false =>
      have hn : nameS s = (runEnd isName s 0 == s.size) := by
        simp only [nameS, hr, bne, h64, Bool.not_false, Bool.and_true]
        simp [show 0 < s.size by omega, show s.size ≤ 64 by omega]
      have loop : ∀ (d i : Nat), s.size - i ≤ d → i ≤ s.size → Ev (fun k => lfcheckref01_IsName.l0 k s (i : Int)) (runEnd isName s i == s.size) := by
        intro d
        induction d with
        | zero =>
          intro i hd hi
          obtain rfl : i = s.size := by omega
          rw [runEnd_stop (by omega), beq_self_eq_true]
          refine Ev.step (fun k => ?_) (Ev.now _)
          simp only [lfcheckref01_IsName.l0]; rw [if_neg (by omega)]
        | succ d ihd =>
          intro i hd hi
          by_cases hlt : i < s.size
          · refine Ev.step (f := fun k => if isName s[i] = true then lfcheckref01_IsName.l0 k s (wrap64 ((i : Int) + 1)) else some false) (fun k => ?_) ?_
            · simp only [lfcheckref01_IsName.l0]; rw [if_pos (by omega), if_pos (by omega), bt_idx s i hlt, nb_f]; rfl
            · rw [w64p (by omega) (by omega)]
              cases hq : isName s[i] with
              | true => rw [runEnd_yes hlt hq]; simp only [if_true]; exact ihd (i + 1) (by omega) (by omega)
              | false => rw [runEnd_no hlt hq, show (i == s.size) = false by rw [beq_eq_false_iff_ne]; omega]; simp only [Bool.false_eq_true, if_false]; exact Ev.now _
          · obtain rfl : i = s.size := by omega
            rw [runEnd_stop (by omega), beq_self_eq_true]
            refine Ev.step (fun k => ?_) (Ev.now _)
            simp only [lfcheckref01_IsName.l0]; rw [if_neg (by omega)]
      rw [hn]
      refine Ev.congr (f := fun k => lfcheckref01_IsName.j0 k s false) (fun k => ?_) (Ev.step (fun k => ?_) (loop s.size 0 (by omega) (by omega)))
      · rw [hf, hr, if_neg (by simp), hb', h64]
      · simp only [lfcheckref01_IsName.j0, Bool.false_eq_true, if_false]; rfl
theorem form_ev (n : Nat) : ∀ t : S42, szT t ≤ n → n ≤ 1000000000 → Ev (fun k => lfcheckref02_Form.f k t.f0 t.f1 t.f2 t.f3) (fmT t) := by
  induction n with
  | zero => intro t h; have := szT_pos t; omega
  | succ n ih =>
    intro t h hn
    rw [szT_eq] at h
    have hl := szL_len t.f3
    have loop : ∀ (d i : Nat), t.f3.length - i ≤ d → i ≤ t.f3.length →
        Ev (fun k => lfcheckref02_Form.l0 k (i : Int) t.f0 t.f1 t.f2 t.f3) (fmL (t.f3.drop i)) := by
      intro d
      induction d with
      | zero =>
        intro i hd hi
        obtain rfl : i = t.f3.length := by omega
        rw [List.drop_length, fmL]
        refine Ev.step (fun k => ?_) (Ev.now _)
        simp only [lfcheckref02_Form.l0]; rw [if_neg (by omega)]
      | succ d ihd =>
        intro i hd hi
        by_cases hlt : i < t.f3.length
        · rw [drop_rd hlt, fmL]
          have hm := szL_mem (rdT_mem hlt)
          refine Ev.step (f := fun k => (lfcheckref02_Form.f k (rd_T42 t.f3 i).f0 (rd_T42 t.f3 i).f1 (rd_T42 t.f3 i).f2 (rd_T42 t.f3 i).f3).bind fun s => if s = true then lfcheckref02_Form.l0 k (wrap64 ((i : Int) + 1)) t.f0 t.f1 t.f2 t.f3 else some false) (fun k => ?_) ?_
          · simp only [lfcheckref02_Form.l0]; rw [if_pos (by omega), if_pos (by omega)]
          · refine Ev.bind (f := fun k s => if s = true then lfcheckref02_Form.l0 k (wrap64 ((i : Int) + 1)) t.f0 t.f1 t.f2 t.f3 else some false) (ih _ (Nat.le_trans hm (by omega)) (by omega)) ?_
            cases hs : fmT (rd_T42 t.f3 i) with
            | true =>
              simp only [if_true, Bool.true_and]
              rw [w64p (by omega) (by omega)]
              exact ihd (i + 1) (by omega) (by omega)
            | false => simp only [Bool.false_eq_true, if_false, Bool.false_and]; exact Ev.now _
        · obtain rfl : i = t.f3.length := by omega
          rw [List.drop_length, fmL]
          refine Ev.step (fun k => ?_) (Ev.now _)
          simp only [lfcheckref02_Form.l0]; rw [if_neg (by omega)]
    have l0 := loop t.f3.length 0 (by omega) (by omega)
    rw [List.drop_zero] at l0
    have j3 : ∀ b : Bool, Ev (fun k => lfcheckref02_Form.j3 k b t.f0 t.f1 t.f2 t.f3) (b && fmL t.f3) := by
      intro b
      cases b with
      | true => refine Ev.step (fun k => ?_) l0; simp only [lfcheckref02_Form.j3, if_true]; rfl
      | false => refine Ev.step (fun k => ?_) (Ev.now _); simp only [lfcheckref02_Form.j3, Bool.false_eq_true, if_false, Bool.false_and]
    rw [fmT_eq]
    have hI := isName_ev t.f1
    have eL : ∀ m : Nat, ((t.f3.length : Int) == (m : Int)) = (t.f3.length == m) := by
      intro m; rw [Bool.eq_iff_iff, beq_iff_eq, beq_iff_eq]; omega
    have e0 := eL 0
    have e1 := eL 1
    have e2 := eL 2
    have eE : ∀ q : List UInt8, (t.f1.toList = q) = (eqB t.f1 ⟨q.toArray⟩ = true) := by
      intro q
      rw [Lib.toList_data]
      unfold eqB
      rw [decide_eq_true_eq]
    have eE0 := eE []
    have eE1 := eE [95]
    -- the three kinds of tests
    have pN : ∀ b : Bool, b = (nameS t.f1 && (t.f3.length == 0)) → Ev (fun k => (lfcheckref01_IsName.f k t.f1).bind fun x => if x = true then lfcheckref02_Form.j3 k ((t.f3.length : Int) == 0) t.f0 t.f1 t.f2 t.f3 else lfcheckref02_Form.j3 k false t.f0 t.f1 t.f2 t.f3) (b && fmL t.f3) := by
      intro b hb
      refine Ev.bind (f := fun k x => if x = true then lfcheckref02_Form.j3 k ((t.f3.length : Int) == 0) t.f0 t.f1 t.f2 t.f3 else lfcheckref02_Form.j3 k false t.f0 t.f1 t.f2 t.f3) hI ?_
      rw [hb]
      cases nameS t.f1 with
      | true => simp only [if_true, Bool.true_and]; rw [← e0]; exact j3 _
      | false => simp only [Bool.false_eq_true, if_false, Bool.false_and]; exact j3 false
    have pE : ∀ (m : Nat) (b : Bool), b = (eqB t.f1 ⟨#[]⟩ && (t.f3.length == m)) → Ev (fun k => if t.f1.toList = ([] : List UInt8) then lfcheckref02_Form.j3 k ((t.f3.length : Int) == (m : Int)) t.f0 t.f1 t.f2 t.f3 else lfcheckref02_Form.j3 k false t.f0 t.f1 t.f2 t.f3) (b && fmL t.f3) := by
      intro m b hb
      rw [hb]
      cases hq : eqB t.f1 ⟨#[]⟩ with
      | true =>
        refine Ev.congr (fun k => if_pos (by rw [eE0]; exact hq)) ?_
        rw [Bool.true_and, ← eL]; exact j3 _
      | false =>
        refine Ev.congr (fun k => if_neg (by rw [eE0]; simp [hq])) ?_
        rw [Bool.false_and]; exact j3 false
    have p12 : Ev (fun k => if (t.f3.length : Int) = 1 then lfcheckref02_Form.j3 k true t.f0 t.f1 t.f2 t.f3 else lfcheckref02_Form.j3 k ((t.f3.length : Int) == 2) t.f0 t.f1 t.f2 t.f3) ((t.f3.length == 1 || t.f3.length == 2) && fmL t.f3) := by
      by_cases h1 : t.f3.length = 1
      · refine Ev.congr (fun k => if_pos (by omega)) ?_
        rw [show (t.f3.length == 1) = true by rw [beq_iff_eq]; exact h1, Bool.true_or]; exact j3 true
      · refine Ev.congr (fun k => if_neg (by omega)) ?_
        rw [show (t.f3.length == 1) = false by rw [beq_eq_false_iff_ne]; exact h1, Bool.false_or, ← e2]; exact j3 _
    have pB : Ev (fun k => if t.f1.toList = ([95] : List UInt8) then (if (t.f3.length : Int) = 1 then lfcheckref02_Form.j3 k true t.f0 t.f1 t.f2 t.f3 else lfcheckref02_Form.j3 k ((t.f3.length : Int) == 2) t.f0 t.f1 t.f2 t.f3) else ((lfcheckref01_IsName.f k t.f1).bind fun x => if x = true then (if (t.f3.length : Int) = 1 then lfcheckref02_Form.j3 k true t.f0 t.f1 t.f2 t.f3 else lfcheckref02_Form.j3 k ((t.f3.length : Int) == 2) t.f0 t.f1 t.f2 t.f3) else lfcheckref02_Form.j3 k false t.f0 t.f1 t.f2 t.f3)) (((nameS t.f1 || eqB t.f1 ⟨#[95]⟩) && (t.f3.length == 1 || t.f3.length == 2)) && fmL t.f3) := by
      cases hq : eqB t.f1 ⟨#[95]⟩ with
      | true =>
        refine Ev.congr (fun k => if_pos (by rw [eE1]; exact hq)) ?_
        rw [Bool.or_true, Bool.true_and]; exact p12
      | false =>
        refine Ev.congr (fun k => if_neg (by rw [eE1]; simp [hq])) ?_
        refine Ev.bind (f := fun k x => if x = true then (if (t.f3.length : Int) = 1 then lfcheckref02_Form.j3 k true t.f0 t.f1 t.f2 t.f3 else lfcheckref02_Form.j3 k ((t.f3.length : Int) == 2) t.f0 t.f1 t.f2 t.f3) else lfcheckref02_Form.j3 k false t.f0 t.f1 t.f2 t.f3) hI ?_
        rw [Bool.or_false]
        cases nameS t.f1 with
        | true => simp only [if_true, Bool.true_and]; exact p12
        | false => simp only [Bool.false_eq_true, if_false, Bool.false_and]; exact j3 false
    have j2 : ∀ b : Bool, t.f0 ≠ 1 → t.f0 ≠ 2 → t.f0 ≠ 3 → t.f0 ≠ 4 → b = decide (t.f0 = 5 ∨ t.f0 = 6 ∨ t.f0 = 9) → Ev (fun k => lfcheckref02_Form.j2 k false t.f0 b t.f0 t.f1 t.f2 t.f3) (nodeS t.f0 t.f1 t.f3.length && fmL t.f3) := by
      intro b h1 h2 h3 h4 hb
      by_cases h5 : t.f0 = 5 ∨ t.f0 = 6 ∨ t.f0 = 9
      · rw [hb, decide_eq_true h5]
        refine Ev.step (fun k => ?_) (pE 2 _ ?_)
        · simp only [lfcheckref02_Form.j2, if_true]; rfl
        · unfold nodeS; rw [if_neg (by omega), if_neg (by omega), if_pos (by omega)]
      · rw [hb, decide_eq_false h5]
        by_cases h7 : t.f0 = 7 ∨ t.f0 = 8
        · have : nodeS t.f0 t.f1 t.f3.length = ((nameS t.f1 || eqB t.f1 ⟨#[95]⟩) && (t.f3.length == 1 || t.f3.length == 2)) := by
            unfold nodeS; rw [if_neg (by omega), if_neg (by omega), if_neg (by omega), if_pos (by omega)]
          rw [this]
          refine Ev.step (fun k => ?_) pB
          simp only [lfcheckref02_Form.j2, Bool.false_eq_true, if_false]
          rcases h7 with h7 | h7
          · rw [if_pos h7]
          · rw [if_neg (by omega), if_pos h7]
        · have : nodeS t.f0 t.f1 t.f3.length = false := by
            unfold nodeS; rw [if_neg (by omega), if_neg (by omega), if_neg (by omega), if_neg (by omega)]
          rw [this]
          refine Ev.step (fun k => ?_) (j3 false)
          simp only [lfcheckref02_Form.j2, Bool.false_eq_true, if_false]
          rw [if_neg (by omega), if_neg (by omega)]
    have j1 : ∀ b : Bool, t.f0 ≠ 1 → t.f0 ≠ 2 → b = decide (t.f0 = 3 ∨ t.f0 = 4) → Ev (fun k => lfcheckref02_Form.j1 k false t.f0 b t.f0 t.f1 t.f2 t.f3) (nodeS t.f0 t.f1 t.f3.length && fmL t.f3) := by
      intro b h1 h2 hb
      by_cases h3 : t.f0 = 3 ∨ t.f0 = 4
      · rw [hb, decide_eq_true h3]
        refine Ev.step (fun k => ?_) (pE 0 _ ?_)
        · simp only [lfcheckref02_Form.j1, if_true]; rfl
        · unfold nodeS; rw [if_neg (by omega), if_pos (by omega)]
      · rw [hb, decide_eq_false h3]
        refine Ev.step (fun k => ?_) (j2 _ h1 h2 (by omega) (by omega) rfl)
        simp only [lfcheckref02_Form.j1, Bool.false_eq_true, if_false]
        by_cases h5 : t.f0 = 5
        · rw [if_pos h5, h5]; rfl
        · rw [if_neg h5]
          by_cases h6 : t.f0 = 6
          · rw [if_pos h6, h6]; rfl
          · rw [if_neg h6]
            congr 1
            rw [Bool.eq_iff_iff, beq_iff_eq, decide_eq_true_eq]; omega
    have j0 : ∀ b : Bool, b = decide (t.f0 = 1 ∨ t.f0 = 2) → Ev (fun k => lfcheckref02_Form.j0 k false t.f0 b t.f0 t.f1 t.f2 t.f3) (nodeS t.f0 t.f1 t.f3.length && fmL t.f3) := by
      intro b hb
      by_cases h1 : t.f0 = 1 ∨ t.f0 = 2
      · rw [hb, decide_eq_true h1]
        refine Ev.step (fun k => ?_) (pN _ ?_)
        · simp only [lfcheckref02_Form.j0, if_true]
        · unfold nodeS; rw [if_pos (by omega)]
      · rw [hb, decide_eq_false h1]
        refine Ev.step (fun k => ?_) (j1 _ (by omega) (by omega) rfl)
        simp only [lfcheckref02_Form.j0, Bool.false_eq_true, if_false]
        by_cases h5 : t.f0 = 3
        · rw [if_pos h5, h5]; rfl
        · rw [if_neg h5]
          congr 1
          rw [Bool.eq_iff_iff, beq_iff_eq, decide_eq_true_eq]; omega
    refine Ev.step (fun k => ?_) (j0 _ rfl)
    simp only [lfcheckref02_Form.f]
    by_cases h5 : t.f0 = 1
    · rw [if_pos h5, h5]; rfl
    · rw [if_neg h5]
      congr 1
      rw [Bool.eq_iff_iff, beq_iff_eq, decide_eq_true_eq]; omega
/-- WellFormed's answer: 0 ok, 1 the form, 2 the size -/
def wfS (t : S42) : Int := if fmT t then (if 4096 < szT t then 2 else if 128 < dpT t then 2 else 0) else 1
theorem rwf_ev (t : S42) (h : szT t ≤ 1000000000) : Ev (fun k => lfcheckref02_WellFormed.f k t.f0 t.f1 t.f2 t.f3) (wfS t) := by
  unfold lfcheckref02_WellFormed.f wfS
  refine Ev.bind (f := fun k x => if x = true then ((lfcheckref02_Size.f k t.f0 t.f1 t.f2 t.f3).bind fun t176 => (if t176 > 4096 then (some 2) else ((lfcheckref02_Depth.f k t.f0 t.f1 t.f2 t.f3).bind fun t177 => (if t177 > 128 then (some 2) else (some 0))))) else some 1) (form_ev _ t (Nat.le_refl _) h) ?_
  cases fmT t with
  | false => simp only [Bool.false_eq_true, if_false]; exact Ev.now _
  | true =>
    simp only [if_true]
    refine Ev.bind (f := fun k x => if x > 4096 then some 2 else (lfcheckref02_Depth.f k t.f0 t.f1 t.f2 t.f3).bind fun t177 => (if t177 > 128 then (some 2) else (some 0))) (rsize_ev _ t (Nat.le_refl _) h) ?_
    by_cases h1 : 4096 < szT t
    · rw [if_pos h1]; refine Ev.congr (fun k => if_pos (by omega)) (Ev.now _)
    · rw [if_neg h1]
      refine Ev.congr (fun k => if_neg (by omega)) ?_
      refine Ev.bind (f := fun k x => if x > 128 then some 2 else some 0) (rdepth_ev _ t (Nat.le_refl _) h) ?_
      by_cases h2 : 128 < dpT t
      · rw [if_pos h2]; refine Ev.congr (fun k => if_pos (by omega)) (Ev.now _)
      · rw [if_neg h2]; refine Ev.congr (fun k => if_neg (by omega)) (Ev.now _)
mutual
def nmT : S42 → Bool
  | ⟨_, n, _, l⟩ => decide (n.size ≤ 64) && nmL l
def nmL : List S42 → Bool
  | [] => true
  | x :: xs => nmT x && nmL xs
end
theorem nmT_eq (t : S42) : nmT t = (decide (t.f1.size ≤ 64) && nmL t.f3) := by cases t; rw [nmT]
theorem nmL_all (l : List S42) : nmL l = l.all nmT := by
  induction l with
  | nil => rfl
  | cons y ys ih => rw [nmL, ih]; rfl
end
end Go.Proofs.YtajefkjcfmfjkaaDoor
namespace Go.Proofs.YtajefkjcfmfjkaaDoor
section
set_option linter.unusedVariables false
set_option linter.unusedSimpArgs false
set_option linter.deprecated false
open Go.RowKit Go.Proofs.YtajefkjcfmfjkaaDoorW.PrintWords Go.Proofs.YtajefkjcfmfjkaaDoor.PRawForms
/-- where the first is of which p holds; -1 -/
def idxF {α : Type} (p : α → Bool) : List α → Nat → Int
  | [], _ => -1
  | x :: xs, i => if p x then (i : Int) else idxF p xs (i + 1)
theorem idxF_any {α : Type} (p : α → Bool) : ∀ (l : List α) (i : Nat), decide ((0 : Int) ≤ idxF p l i) = l.any p
  | [], _ => rfl
  | x :: xs, i => by
    rw [idxF, List.any_cons]
    cases p x with
    | true => simp
    | false => simp only [Bool.false_eq_true, if_false, Bool.false_or]; exact idxF_any p xs (i + 1)
theorem atn42 {w : World} {A : Option Addr} {n : Nat} {xs : List S42} (h : Kd.C k42 w A n xs) (k : Nat) (hk : k < n) : ∃ ad A3 c3, A = some ad ∧ w.cell? (ad.add (k * 4)) = some (.int .i64 (rd_T42 xs k).f0) ∧ w.cell? ⟨(ad.add (k * 4)).block, (ad.add (k * 4)).off + 1, none⟩ = some (.string (rd_T42 xs k).f1) ∧ w.cell? ⟨(ad.add (k * 4)).block, (ad.add (k * 4)).off + 2, none⟩ = some (.int .i64 (rd_T42 xs k).f2) ∧ w.cell? ⟨(ad.add (k * 4)).block, (ad.add (k * 4)).off + 3, none⟩ = some (.slice A3 (rd_T42 xs k).f3.length c3) ∧ (rd_T42 xs k).f3.length ≤ c3 ∧ k42.C w A3 (rd_T42 xs k).f3.length (rd_T42 xs k).f3 := by
  have := at_T42 h (k : Int) (by omega) (by omega)
  rwa [Int.toNat_natCast] at this
set_option maxHeartbeats 1600000 in
set_option maxRecDepth 100000 in
theorem idx63_any (l : List S42) (A : Option Addr) (c B : Nat) (p : S42 → Bool) (w : World) (hl : l.length ≤ 1000000) (hr : Kd.C k42 w A l.length l)
    (HP : ∀ x ∈ l, ∀ (A' : Option Addr) (c' : Nat) (W : World), Below w.heap.size w W → Kd.C k42 W A' x.f3.length x.f3 → x.f3.length ≤ c' → Calls Tryd.prog 63 #[.agg #[.int .i64 x.f0, .string x.f1, .int .i64 x.f2, .slice A' x.f3.length c'], .pointer (some ⟨B, 0, none⟩)] W fun e w' => e = .returned (.bool (p x)) ∧ Below W.heap.size W w') :
    Calls Tryd.prog 92 #[.slice A l.length c, .func (.func 63) #[] #[.pointer (some ⟨B, 0, none⟩)]] w fun e w' => e = .returned (.int .i64 (idxF p l 0)) ∧ Below w.heap.size w w' := by
  have HR := Aside0.mk hr
  have HQ := Aside0.mk HP
  have HL := Aside0.mk hl
  clear hr HP
  have hu42 := Tryd.underlying42
  go_enter Tryd.func92, Tryd.ntmps92
  go_wp2
  go_loopw [8] (fun v w' => ∃ k : Nat, k ≤ l.length ∧ v = .int .i64 k ∧ Aside0 (idxF p (l.drop k) k = idxF p l 0) ∧ Aside0 (Below w.heap.size w w')) (fun v _ => l.length - (intOf v).toNat)
  case atStart => exact ⟨0, by omega, rfl, ⟨by rw [List.drop_zero]⟩, ⟨Below.refl _ _⟩⟩
  case round =>
    obtain ⟨k, hk, rfl, HI, HB⟩ := hrel
    by_cases hlt : k < l.length
    · have hI := HI.out
      rw [drop_rd hlt, idxF] at hI
      obtain ⟨ad, A3, c3, hA, h0, h1, h2, h3, hc3, hC3⟩ := atn42 (Kd.C_below HR.out HB.out) k hlt
      subst hA
      have HM := Aside0.mk (HQ.out _ (rdT_mem hlt) A3 c3)
      have HX := Aside0.mk hC3
      have q0 := eq_true (show (0 : Int) ≤ (k : Int) by omega)
      have q1 := eq_true (show (k : Int) < (l.length : Int) by omega)
      have HLT := Aside0.mk hlt
      clear hC3
      generalize rd_T42 l (k : Int) = x at *
      cases hp : p x with
      | true =>
        rw [hp] at HM hI
        rw [if_pos rfl] at hI
        have HI2 := Aside0.mk hI
        clear hp hI HI hk hl
        go_wp2_with (go_at_call 63; (with_reducible refine (HM.out _ ?b1 ?b2 hc3).mono ?_); (case b1 => exact HB.out); (case b2 => exact HX.out); rintro e w' ⟨rfl, hb⟩; have HB1 := Aside0.mk (below_step HB.out hb); clear hb)
        go_ret
        exact ⟨by rw [← HI2.out]; rfl, HB1.out⟩
      | false =>
        rw [hp] at HM hI
        rw [if_neg (by simp)] at hI
        have HI2 := Aside0.mk hI
        have q2 : IntKind.i64.wrap ((k : Int) + 1) = (k : Int) + 1 := IntWalk.i64_in _ (by omega)
        clear hp hI HI hk
        go_wp2_with (go_at_call 63; (with_reducible refine (HM.out _ ?c1 ?c2 hc3).mono ?_); (case c1 => exact HB.out); (case c2 => exact HX.out); rintro e w' ⟨rfl, hb⟩; have HB1 := Aside0.mk (below_step HB.out hb); clear hb)
        go_roundw
        case rel => exact ⟨k + 1, HLT.out, by go_num, HI2, HB1⟩
        case measure => simp [intOf]; omega
    · have q1 := eq_false (show ¬ ((k : Int) < (l.length : Int)) by omega)
      have hI := HI.out
      rw [List.drop_eq_nil_of_le (by omega), idxF] at hI
      have HI2 := Aside0.mk hI
      clear hI HI hlt
      go_wp2
      go_ret
      exact ⟨by rw [← HI2.out]; rfl, HB.out⟩
set_option maxHeartbeats 1600000 in
set_option maxRecDepth 100000 in
theorem con63_any (l : List S42) (A : Option Addr) (c B : Nat) (p : S42 → Bool) (w : World) (hl : l.length ≤ 1000000) (hr : Kd.C k42 w A l.length l)
    (HP : ∀ x ∈ l, ∀ (A' : Option Addr) (c' : Nat) (W : World), Below w.heap.size w W → Kd.C k42 W A' x.f3.length x.f3 → x.f3.length ≤ c' → Calls Tryd.prog 63 #[.agg #[.int .i64 x.f0, .string x.f1, .int .i64 x.f2, .slice A' x.f3.length c'], .pointer (some ⟨B, 0, none⟩)] W fun e w' => e = .returned (.bool (p x)) ∧ Below W.heap.size W w') :
    Calls Tryd.prog 62 #[.slice A l.length c, .func (.func 63) #[] #[.pointer (some ⟨B, 0, none⟩)]] w fun e w' => e = .returned (.bool (l.any p)) ∧ Below w.heap.size w w' := by
  have HI := Aside0.mk (idx63_any l A c B p w hl hr HP)
  rw [← idxF_any p l 0]
  clear hr HP hl
  go_enter Tryd.func62, Tryd.ntmps62
  go_wp2_with (go_at_call 92; (with_reducible refine HI.out.mono ?_); rintro e w' ⟨rfl, hb⟩; have HB := Aside0.mk hb; clear hb)
  go_ret
  exact ⟨rfl, HB.out⟩
/-- the closure that asks a part -/
theorem who1_any (x : S42) (A : Option Addr) (c B : Nat) (b : Bool) (w : World) (hB : w.cell? ⟨B, 0, none⟩ = some (.func (.func 60) #[] #[.pointer (some ⟨B, 0, none⟩)]))
    (HC : ∀ W : World, Below w.heap.size w W → Calls Tryd.prog 60 #[.agg #[.int .i64 x.f0, .string x.f1, .int .i64 x.f2, .slice A x.f3.length c], .pointer (some ⟨B, 0, none⟩)] W fun e w' => e = .returned (.bool b) ∧ Below W.heap.size W w') :
    Calls Tryd.prog 63 #[.agg #[.int .i64 x.f0, .string x.f1, .int .i64 x.f2, .slice A x.f3.length c], .pointer (some ⟨B, 0, none⟩)] w fun e w' => e = .returned (.bool (!b)) ∧ Below w.heap.size w w' := by
  have hu42 := Tryd.underlying42
  have hlt := World.block_lt_of_cell? w _ hB
  have H := Aside0.mk HC
  clear HC
  go_enter Tryd.func63, Tryd.ntmps63
  go_wp2_with (go_at_call 60; (with_reducible refine (H.out _ ?b1).mono ?_); (case b1 => exact (by repeat (first | (with_reducible first | exact Below.refl _ _ | apply below_alloc | apply pw_below_drewN | apply below_drew1 | refine below_set ?_ (Nat.le_refl _)) | assumption))); rintro e w' ⟨rfl, hb⟩; have HB : Aside0 (Below w.heap.size w w') := ⟨below_step (by repeat (first | (with_reducible first | exact Below.refl _ _ | apply below_alloc | apply pw_below_drewN | apply below_drew1 | refine below_set ?_ (Nat.le_refl _)) | assumption)) hb⟩; clear hb)
  go_ret
  exact ⟨rfl, HB.out⟩
/-- the closure that asks a tree; formed by its contract -/
def FormedC : Prop := ∀ (k : Int) (n : ByteArray) (o : Int) (A : Option Addr) (m c : Nat) (w : World), n.size ≤ 1000000 → m ≤ 1000000 →
    Calls Tryd.prog 61 #[.agg #[.int .i64 k, .string n, .int .i64 o, .slice A m c]] w fun e w' => e = .returned (.bool (nodeS k n m)) ∧ Below w.heap.size w w'
theorem all_not (l : List S42) : (!l.any fun x => !fmT x) = fmL l := by
  rw [fmL_all]
  induction l with
  | nil => rfl
  | cons x xs ih => rw [List.any_cons, List.all_cons, Bool.not_or, ih, Bool.not_not]
set_option maxHeartbeats 3200000 in
set_option maxRecDepth 100000 in
theorem who_any (HF : FormedC) (n : Nat) : ∀ (t : S42) (A : Option Addr) (c B : Nat) (w : World), szT t ≤ n → n ≤ 1000000 → nmT t = true → Kd.C k42 w A t.f3.length t.f3 → t.f3.length ≤ c → w.cell? ⟨B, 0, none⟩ = some (.func (.func 60) #[] #[.pointer (some ⟨B, 0, none⟩)]) →
    Calls Tryd.prog 60 #[.agg #[.int .i64 t.f0, .string t.f1, .int .i64 t.f2, .slice A t.f3.length c], .pointer (some ⟨B, 0, none⟩)] w fun e w' => e = .returned (.bool (fmT t)) ∧ Below w.heap.size w w' := by
  induction n with
  | zero => intro t A c B w h; have := szT_pos t; omega
  | succ n ih =>
    intro t A c B w hsz hn hnm hr hc hB
    rw [szT_eq] at hsz
    rw [nmT_eq, Bool.and_eq_true, decide_eq_true_eq] at hnm
    have hl := szL_len t.f3
    rw [fmT_eq]
    have HF1 := Aside0.mk (fun W => HF t.f0 t.f1 t.f2 A t.f3.length c W (by omega) (by omega))
    have HN : Aside0 (∀ W : World, Below w.heap.size w W → Calls Tryd.prog 62 #[.slice A t.f3.length c, .func (.func 63) #[] #[.pointer (some ⟨B, 0, none⟩)]] W fun e w' => e = .returned (.bool (t.f3.any fun x => !fmT x)) ∧ Below W.heap.size W w') := by
      constructor
      intro W hW
      refine con63_any t.f3 A c B _ W (by omega) (Kd.C_below hr hW) ?_
      intro x hx A' c' W' hW' hr' hc'
      have hBW := pw_cell_below (below_step hW hW') hB
      refine who1_any x A' c' B _ W' hBW ?_
      intro W'' hW''
      have hnx : nmT x = true := by rw [nmL_all] at hnm; exact List.all_eq_true.1 hnm.2 x hx
      exact ih x A' c' B W'' (Nat.le_trans (szL_mem hx) (by omega)) (by omega) hnx (Kd.C_below hr' hW'') hc' (pw_cell_below hW'' hBW)
    have hu42 := Tryd.underlying42
    rw [← all_not]
    generalize (t.f3.any fun x => !fmT x) = bb at *
    generalize nodeS t.f0 t.f1 t.f3.length = nb at *
    clear hsz hnm hl hB hr hn ih
    cases nb with
    | true =>
      go_enter Tryd.func60, Tryd.ntmps60
      go_wp2_with (first | (go_at_call 61; (with_reducible refine (HF1.out _).mono ?_); rintro e w' ⟨rfl, hb⟩; have HB : Aside0 (Below w.heap.size w w') := ⟨below_step (by repeat (first | (with_reducible first | exact Below.refl _ _ | apply below_alloc | apply pw_below_drewN | apply below_drew1 | refine below_set ?_ (Nat.le_refl _)) | assumption)) hb⟩; have hsl := pw_cell_below hb (a := ⟨w.heap.size, 3, none⟩) (v := .slice A t.f3.length c) (by go_simp); clear hb) | (go_at_call 62; (with_reducible refine (HN.out _ ?b1).mono ?_); (case b1 => exact HB.out); rintro e w' ⟨rfl, hb⟩; have HB2 : Aside0 (Below w.heap.size w w') := ⟨below_step HB.out hb⟩; clear hb))
      go_ret
      exact ⟨by simp, HB2.out⟩
    | false =>
      go_enter Tryd.func60, Tryd.ntmps60
      go_wp2_with (first | (go_at_call 61; (with_reducible refine (HF1.out _).mono ?_); rintro e w' ⟨rfl, hb⟩; have HB : Aside0 (Below w.heap.size w w') := ⟨below_step (by repeat (first | (with_reducible first | exact Below.refl _ _ | apply below_alloc | apply pw_below_drewN | apply below_drew1 | refine below_set ?_ (Nat.le_refl _)) | assumption)) hb⟩; clear hb))
      go_ret
      exact ⟨by simp, HB.out⟩
theorem size_any (t : S42) (A : Option Addr) (c : Nat) (w : World) (h : szT t ≤ 1000000000) (hr : Kd.C k42 w A t.f3.length t.f3) (hc : t.f3.length ≤ c) :
    Calls Tryd.prog 31 #[.agg #[.int .i64 t.f0, .string t.f1, .int .i64 t.f2, .slice A t.f3.length c]] w fun e w' => e = .returned (.int .i64 (szT t)) ∧ Below w.heap.size w w' := by
  obtain ⟨k, hk⟩ := (size_ev _ t (Nat.le_refl _) h).rounds
  exact raw_Size.calls k _ _ _ A c t.f3 _ w hr hc hk
theorem depth_any (t : S42) (A : Option Addr) (c : Nat) (w : World) (h : szT t ≤ 1000000000) (hr : Kd.C k42 w A t.f3.length t.f3) (hc : t.f3.length ≤ c) :
    Calls Tryd.prog 33 #[.agg #[.int .i64 t.f0, .string t.f1, .int .i64 t.f2, .slice A t.f3.length c]] w fun e w' => e = .returned (.int .i64 (dpT t)) ∧ Below w.heap.size w w' := by
  obtain ⟨k, hk⟩ := (depth_ev _ t (Nat.le_refl _) h).rounds
  exact raw_Depth.calls k _ _ _ A c t.f3 _ w hr hc hk
theorem rsize_any (t : S42) (A : Option Addr) (c : Nat) (w : World) (h : szT t ≤ 1000000000) (hr : Kd.C k42 w A t.f3.length t.f3) (hc : t.f3.length ≤ c) :
    Calls Tryd.prog 32 #[.agg #[.int .i64 t.f0, .string t.f1, .int .i64 t.f2, .slice A t.f3.length c]] w fun e w' => e = .returned (.int .i64 (szT t)) ∧ Below w.heap.size w w' := by
  obtain ⟨k, hk⟩ := (rsize_ev _ t (Nat.le_refl _) h).rounds
  exact lfcheckref02_Size.calls k _ _ _ A c t.f3 _ w hr hc hk
theorem rdepth_any (t : S42) (A : Option Addr) (c : Nat) (w : World) (h : szT t ≤ 1000000000) (hr : Kd.C k42 w A t.f3.length t.f3) (hc : t.f3.length ≤ c) :
    Calls Tryd.prog 34 #[.agg #[.int .i64 t.f0, .string t.f1, .int .i64 t.f2, .slice A t.f3.length c]] w fun e w' => e = .returned (.int .i64 (dpT t)) ∧ Below w.heap.size w w' := by
  obtain ⟨k, hk⟩ := (rdepth_ev _ t (Nat.le_refl _) h).rounds
  exact lfcheckref02_Depth.calls k _ _ _ A c t.f3 _ w hr hc hk
theorem rwf_any (t : S42) (A : Option Addr) (c : Nat) (w : World) (h : szT t ≤ 1000000000) (hr : Kd.C k42 w A t.f3.length t.f3) (hc : t.f3.length ≤ c) :
    Calls Tryd.prog 30 #[.agg #[.int .i64 t.f0, .string t.f1, .int .i64 t.f2, .slice A t.f3.length c]] w fun e w' => e = .returned (.int .i64 (wfS t)) ∧ Below w.heap.size w w' := by
  obtain ⟨k, hk⟩ := (rwf_ev t h).rounds
  exact lfcheckref02_WellFormed.calls k _ _ _ A c t.f3 _ w hr hc hk
set_option maxHeartbeats 3200000 in
set_option maxRecDepth 100000 in
theorem wf_any (HF : FormedC) (t : S42) (A : Option Addr) (c : Nat) (w : World) (hsz : szT t ≤ 1000000) (hnm : nmT t = true) (hr : Kd.C k42 w A t.f3.length t.f3) (hc : t.f3.length ≤ c) :
    Calls Tryd.prog 29 #[.agg #[.int .i64 t.f0, .string t.f1, .int .i64 t.f2, .slice A t.f3.length c]] w fun e w' => e = .returned (.int .i64 (wfS t)) ∧ Below w.heap.size w w' := by
  have hds := dp_le_sz _ t (Nat.le_refl _)
  have HW : Aside0 (∀ (B : Nat) (W : World), Below w.heap.size w W → W.cell? ⟨B, 0, none⟩ = some (.func (.func 60) #[] #[.pointer (some ⟨B, 0, none⟩)]) → Calls Tryd.prog 60 #[.agg #[.int .i64 t.f0, .string t.f1, .int .i64 t.f2, .slice A t.f3.length c], .pointer (some ⟨B, 0, none⟩)] W fun e w' => e = .returned (.bool (fmT t)) ∧ Below W.heap.size W w') :=
    ⟨fun B W hW hB => who_any HF 1000000 t A c B W hsz (by omega) hnm (Kd.C_below hr hW) hc hB⟩
  have HS : Aside0 (∀ W : World, Below w.heap.size w W → Calls Tryd.prog 31 #[.agg #[.int .i64 t.f0, .string t.f1, .int .i64 t.f2, .slice A t.f3.length c]] W fun e w' => e = .returned (.int .i64 (szT t)) ∧ Below W.heap.size W w') :=
    ⟨fun W hW => size_any t A c W (by omega) (Kd.C_below hr hW) hc⟩
  have HD : Aside0 (∀ W : World, Below w.heap.size w W → Calls Tryd.prog 33 #[.agg #[.int .i64 t.f0, .string t.f1, .int .i64 t.f2, .slice A t.f3.length c]] W fun e w' => e = .returned (.int .i64 (dpT t)) ∧ Below W.heap.size W w') :=
    ⟨fun W hW => depth_any t A c W (by omega) (Kd.C_below hr hW) hc⟩
  have hu42 := Tryd.underlying42
  have hwf : wfS t = if fmT t then (if 4096 < szT t then 2 else if 128 < dpT t then 2 else 0) else 1 := rfl
  rw [hwf]
  clear hwf hr hnm
  generalize fmT t = fb at *
  cases fb with
  | false =>
    go_enter Tryd.func29, Tryd.ntmps29
    go_wp2_with (first | (go_at_call 60; (with_reducible refine (HW.out _ _ ?b1 ?b2).mono ?_); (case b1 => exact (by repeat (first | (with_reducible first | exact Below.refl _ _ | apply below_alloc | apply pw_below_drewN | apply below_drew1 | refine below_set ?_ (Nat.le_refl _)) | assumption))); (case b2 => go_simp); rintro e w1 ⟨rfl, hb⟩; have HB : Aside0 (Below w.heap.size w w1) := ⟨below_step (by repeat (first | (with_reducible first | exact Below.refl _ _ | apply below_alloc | apply pw_below_drewN | apply below_drew1 | refine below_set ?_ (Nat.le_refl _)) | assumption)) hb⟩; clear hb))
    go_ret
    exact ⟨rfl, HB.out⟩
  | true =>
    by_cases h1 : 4096 < szT t
    · have hd1 : decide ((4096 : Int) < (szT t : Int)) = true := decide_eq_true (by omega)
      go_enter Tryd.func29, Tryd.ntmps29
      go_wp2_with (first | (go_at_call 60; (with_reducible refine (HW.out _ _ ?b1 ?b2).mono ?_); (case b1 => exact (by repeat (first | (with_reducible first | exact Below.refl _ _ | apply below_alloc | apply pw_below_drewN | apply below_drew1 | refine below_set ?_ (Nat.le_refl _)) | assumption))); (case b2 => go_simp); rintro e w1 ⟨rfl, hb⟩; have HB : Aside0 (Below w.heap.size w w1) := ⟨below_step (by repeat (first | (with_reducible first | exact Below.refl _ _ | apply below_alloc | apply pw_below_drewN | apply below_drew1 | refine below_set ?_ (Nat.le_refl _)) | assumption)) hb⟩; have m0 := pw_cell_below hb (a := ⟨w.heap.size, 0, none⟩) (v := .int .i64 t.f0) (by go_simp); have m1 := pw_cell_below hb (a := ⟨w.heap.size, 1, none⟩) (v := .string t.f1) (by go_simp); have m2 := pw_cell_below hb (a := ⟨w.heap.size, 2, none⟩) (v := .int .i64 t.f2) (by go_simp); have m3 := pw_cell_below hb (a := ⟨w.heap.size, 3, none⟩) (v := .slice A t.f3.length c) (by go_simp); clear hb) | (go_at_call 31; (with_reducible refine (HS.out _ ?b3).mono ?_); (case b3 => exact HB.out); rintro e w2 ⟨rfl, hb⟩; have HB2 : Aside0 (Below w.heap.size w w2) := ⟨below_step HB.out hb⟩; clear hb))
      go_ret
      exact ⟨by simp, HB2.out⟩
    · have hd1 : decide ((4096 : Int) < (szT t : Int)) = false := decide_eq_false (by omega)
      have hd2 : decide ((128 : Int) < (dpT t : Int)) = decide (128 < dpT t) := by rw [Bool.eq_iff_iff, decide_eq_true_eq, decide_eq_true_eq]; omega
      by_cases h2 : 128 < dpT t
      · rw [decide_eq_true h2] at hd2
        go_enter Tryd.func29, Tryd.ntmps29
        go_wp2_with (first | (go_at_call 60; (with_reducible refine (HW.out _ _ ?b1 ?b2).mono ?_); (case b1 => exact (by repeat (first | (with_reducible first | exact Below.refl _ _ | apply below_alloc | apply pw_below_drewN | apply below_drew1 | refine below_set ?_ (Nat.le_refl _)) | assumption))); (case b2 => go_simp); rintro e w1 ⟨rfl, hb⟩; have HB : Aside0 (Below w.heap.size w w1) := ⟨below_step (by repeat (first | (with_reducible first | exact Below.refl _ _ | apply below_alloc | apply pw_below_drewN | apply below_drew1 | refine below_set ?_ (Nat.le_refl _)) | assumption)) hb⟩; have m0 := pw_cell_below hb (a := ⟨w.heap.size, 0, none⟩) (v := .int .i64 t.f0) (by go_simp); have m1 := pw_cell_below hb (a := ⟨w.heap.size, 1, none⟩) (v := .string t.f1) (by go_simp); have m2 := pw_cell_below hb (a := ⟨w.heap.size, 2, none⟩) (v := .int .i64 t.f2) (by go_simp); have m3 := pw_cell_below hb (a := ⟨w.heap.size, 3, none⟩) (v := .slice A t.f3.length c) (by go_simp); clear hb) | (go_at_call 31; (with_reducible refine (HS.out _ ?b3).mono ?_); (case b3 => exact HB.out); rintro e w2 ⟨rfl, hb⟩; have HB2 : Aside0 (Below w.heap.size w w2) := ⟨below_step HB.out hb⟩; have k0 := pw_cell_below hb m0; have k1 := pw_cell_below hb m1; have k2 := pw_cell_below hb m2; have k3 := pw_cell_below hb m3; clear m0 m1 m2 m3; clear hb) | (go_at_call 33; (with_reducible refine (HD.out _ ?b4).mono ?_); (case b4 => exact HB2.out); rintro e w3 ⟨rfl, hb⟩; have HB3 : Aside0 (Below w.heap.size w w3) := ⟨below_step HB2.out hb⟩; clear hb))
        go_ret
        exact ⟨by simp, HB3.out⟩
      · rw [decide_eq_false h2] at hd2
        go_enter Tryd.func29, Tryd.ntmps29
        go_wp2_with (first | (go_at_call 60; (with_reducible refine (HW.out _ _ ?b1 ?b2).mono ?_); (case b1 => exact (by repeat (first | (with_reducible first | exact Below.refl _ _ | apply below_alloc | apply pw_below_drewN | apply below_drew1 | refine below_set ?_ (Nat.le_refl _)) | assumption))); (case b2 => go_simp); rintro e w1 ⟨rfl, hb⟩; have HB : Aside0 (Below w.heap.size w w1) := ⟨below_step (by repeat (first | (with_reducible first | exact Below.refl _ _ | apply below_alloc | apply pw_below_drewN | apply below_drew1 | refine below_set ?_ (Nat.le_refl _)) | assumption)) hb⟩; have m0 := pw_cell_below hb (a := ⟨w.heap.size, 0, none⟩) (v := .int .i64 t.f0) (by go_simp); have m1 := pw_cell_below hb (a := ⟨w.heap.size, 1, none⟩) (v := .string t.f1) (by go_simp); have m2 := pw_cell_below hb (a := ⟨w.heap.size, 2, none⟩) (v := .int .i64 t.f2) (by go_simp); have m3 := pw_cell_below hb (a := ⟨w.heap.size, 3, none⟩) (v := .slice A t.f3.length c) (by go_simp); clear hb) | (go_at_call 31; (with_reducible refine (HS.out _ ?b3).mono ?_); (case b3 => exact HB.out); rintro e w2 ⟨rfl, hb⟩; have HB2 : Aside0 (Below w.heap.size w w2) := ⟨below_step HB.out hb⟩; have k0 := pw_cell_below hb m0; have k1 := pw_cell_below hb m1; have k2 := pw_cell_below hb m2; have k3 := pw_cell_below hb m3; clear m0 m1 m2 m3; clear hb) | (go_at_call 33; (with_reducible refine (HD.out _ ?b4).mono ?_); (case b4 => exact HB2.out); rintro e w3 ⟨rfl, hb⟩; have HB3 : Aside0 (Below w.heap.size w w3) := ⟨below_step HB2.out hb⟩; clear hb))
        go_ret
        exact ⟨by simp, HB3.out⟩
end
end Go.Proofs.YtajefkjcfmfjkaaDoor
namespace Go.Proofs.YtajefkjcfmfjkaaDoor
section
set_option linter.unusedVariables false
set_option linter.unusedSimpArgs false
set_option linter.deprecated false
open Go.RowKit Go.Proofs.YtajefkjcfmfjkaaDoorW.PrintWords Go.Proofs.YtajefkjcfmfjkaaDoor.PRawForms
set_option linter.unusedVariables false
theorem eq_nat (m j : Nat) : ((m : Int) == (j : Int)) = (m == j) := by rw [Bool.eq_iff_iff, beq_iff_eq, beq_iff_eq]; omega
theorem node1 (k : Int) (n : ByteArray) (m : Nat) (h : k = 1 ∨ k = 2) : nodeS k n m = (nameS n && ((m : Int) == 0)) := by
  unfold nodeS; rw [if_pos h]; congr 1; exact (eq_nat m 0).symm
theorem node3 (k : Int) (n : ByteArray) (m : Nat) (h : k = 3 ∨ k = 4) : nodeS k n m = (eqB n ⟨#[]⟩ && ((m : Int) == 0)) := by
  unfold nodeS; rw [if_neg (by omega), if_pos h]; congr 1; exact (eq_nat m 0).symm
theorem node5 (k : Int) (n : ByteArray) (m : Nat) (h : k = 5 ∨ k = 6 ∨ k = 9) : nodeS k n m = (eqB n ⟨#[]⟩ && ((m : Int) == 2)) := by
  unfold nodeS; rw [if_neg (by omega), if_neg (by omega), if_pos h]; congr 1; exact (eq_nat m 2).symm
theorem node7 (k : Int) (n : ByteArray) (m : Nat) (h : k = 7 ∨ k = 8) : nodeS k n m = ((nameS n || eqB n ⟨#[95]⟩) && ((m : Int) == 1 || (m : Int) == 2)) := by
  unfold nodeS; rw [if_neg (by omega), if_neg (by omega), if_neg (by omega), if_pos h]; congr 1; exact congr (congrArg or (eq_nat m 1).symm) (eq_nat m 2).symm
theorem node0 (k : Int) (n : ByteArray) (m : Nat) (h : ¬ (1 ≤ k ∧ k ≤ 9)) : nodeS k n m = false := by
  unfold nodeS; rw [if_neg (by omega), if_neg (by omega), if_neg (by omega), if_neg (by omega)]
theorem emp_ff {n : ByteArray} (h : n ≠ ⟨#[]⟩) : (n.toList == []) = false ∧ n.toList.isEmpty = false := by
  have : n.toList ≠ [] := fun e => h (by rw [Lib.toList_data] at e; cases n; simp at e; rw [e])
  constructor
  · rw [beq_eq_false_iff_ne]; exact this
  · rw [Bool.eq_false_iff]; intro e; exact this (List.isEmpty_iff.1 e)
theorem lit_ff {n : ByteArray} (q : List UInt8) (h : n ≠ ⟨q.toArray⟩) : (n.toList == q) = false := by
  rw [beq_eq_false_iff_ne]; intro e; apply h; rw [Lib.toList_data] at e; cases n; simp at e; rw [← e]
def FmPost (k : Int) (n : ByteArray) (m : Nat) (w : World) (e : Ending) (w' : World) : Prop := e = .returned (.bool (nodeS k n m)) ∧ Below w.heap.size w w'
set_option maxHeartbeats 1600000 in set_option maxRecDepth 100000 in
theorem formed_1 (n : ByteArray) (o : Int) (A : Option Addr) (m c : Nat) (w : World) (hn : n.size ≤ 1000000) (hm : m ≤ 1000000) :
    Calls Tryd.prog 61 #[.agg #[.int .i64 1, .string n, .int .i64 o, .slice A m c]] w (FmPost 1 n m w) := by
  have HN := Aside0.mk (fun W => isName_any n W (by omega))
  have hnd := node1 1 n m (by omega)
  cases hb : nameS n with
  | true =>
    rw [hb] at HN hnd
    clear hb hn
    have HV := Aside0.mk (show nodeS 1 n m = ((m : Int) == 0) from by rw [hnd, Bool.true_and])
    clear hm hnd
    go_enter Tryd.func61, Tryd.ntmps61
    go_wp2_with (go_at_call 20; (with_reducible refine (HN.out _).mono ?_); rintro e w' ⟨rfl, ⟨nd, rfl⟩⟩)
    go_ret
    exact ⟨by rw [HV.out]; rfl, (by repeat (first | (with_reducible first | exact Below.refl _ _ | apply below_alloc | apply pw_below_drewN | apply below_drew1 | refine below_set ?_ (Nat.le_refl _)) | assumption))⟩
  | false =>
    rw [hb] at HN hnd
    clear hb hn
    have HV := Aside0.mk (show nodeS 1 n m = false from by rw [hnd, Bool.false_and])
    clear hm hnd
    go_enter Tryd.func61, Tryd.ntmps61
    go_wp2_with (go_at_call 20; (with_reducible refine (HN.out _).mono ?_); rintro e w' ⟨rfl, ⟨nd, rfl⟩⟩)
    go_ret
    exact ⟨by rw [HV.out]; rfl, (by repeat (first | (with_reducible first | exact Below.refl _ _ | apply below_alloc | apply pw_below_drewN | apply below_drew1 | refine below_set ?_ (Nat.le_refl _)) | assumption))⟩
set_option maxHeartbeats 1600000 in set_option maxRecDepth 100000 in
theorem formed_2 (n : ByteArray) (o : Int) (A : Option Addr) (m c : Nat) (w : World) (hn : n.size ≤ 1000000) (hm : m ≤ 1000000) :
    Calls Tryd.prog 61 #[.agg #[.int .i64 2, .string n, .int .i64 o, .slice A m c]] w (FmPost 2 n m w) := by
  have HN := Aside0.mk (fun W => isName_any n W (by omega))
  have hnd := node1 2 n m (by omega)
  cases hb : nameS n with
  | true =>
    rw [hb] at HN hnd
    clear hb hn
    have HV := Aside0.mk (show nodeS 2 n m = ((m : Int) == 0) from by rw [hnd, Bool.true_and])
    clear hm hnd
    go_enter Tryd.func61, Tryd.ntmps61
    go_wp2_with (go_at_call 20; (with_reducible refine (HN.out _).mono ?_); rintro e w' ⟨rfl, ⟨nd, rfl⟩⟩)
    go_ret
    exact ⟨by rw [HV.out]; rfl, (by repeat (first | (with_reducible first | exact Below.refl _ _ | apply below_alloc | apply pw_below_drewN | apply below_drew1 | refine below_set ?_ (Nat.le_refl _)) | assumption))⟩
  | false =>
    rw [hb] at HN hnd
    clear hb hn
    have HV := Aside0.mk (show nodeS 2 n m = false from by rw [hnd, Bool.false_and])
    clear hm hnd
    go_enter Tryd.func61, Tryd.ntmps61
    go_wp2_with (go_at_call 20; (with_reducible refine (HN.out _).mono ?_); rintro e w' ⟨rfl, ⟨nd, rfl⟩⟩)
    go_ret
    exact ⟨by rw [HV.out]; rfl, (by repeat (first | (with_reducible first | exact Below.refl _ _ | apply below_alloc | apply pw_below_drewN | apply below_drew1 | refine below_set ?_ (Nat.le_refl _)) | assumption))⟩
set_option maxHeartbeats 1600000 in set_option maxRecDepth 100000 in
theorem formed_3 (n : ByteArray) (o : Int) (A : Option Addr) (m c : Nat) (w : World) (hn : n.size ≤ 1000000) (hm : m ≤ 1000000) :
    Calls Tryd.prog 61 #[.agg #[.int .i64 3, .string n, .int .i64 o, .slice A m c]] w (FmPost 3 n m w) := by
  have hnd := node3 3 n m (by omega)
  have HN := Aside0.mk (fun W => isName_any n W (by omega))
  by_cases hs : n = ⟨#[]⟩
  · subst hs
    rw [eqB_self] at hnd
    clear hn
    have HV := Aside0.mk (show nodeS 3 ⟨#[]⟩ m = ((m : Int) == 0) from by rw [hnd, Bool.true_and])
    clear hm hnd
    go_enter Tryd.func61, Tryd.ntmps61
    go_wp2_with (go_at_call 20; (with_reducible refine (HN.out _).mono ?_); rintro e w' ⟨rfl, ⟨nd, rfl⟩⟩)
    go_ret
    exact ⟨by rw [HV.out]; rfl, (by repeat (first | (with_reducible first | exact Below.refl _ _ | apply below_alloc | apply pw_below_drewN | apply below_drew1 | refine below_set ?_ (Nat.le_refl _)) | assumption))⟩
  · rw [eqB_ne hs] at hnd
    obtain ⟨qs, qe⟩ := emp_ff hs
    clear hn hs
    have HV := Aside0.mk (show nodeS 3 n m = false from by rw [hnd, Bool.false_and])
    clear hm hnd
    go_enter Tryd.func61, Tryd.ntmps61
    go_wp2_with (go_at_call 20; (with_reducible refine (HN.out _).mono ?_); rintro e w' ⟨rfl, ⟨nd, rfl⟩⟩)
    go_ret
    exact ⟨by rw [HV.out]; rfl, (by repeat (first | (with_reducible first | exact Below.refl _ _ | apply below_alloc | apply pw_below_drewN | apply below_drew1 | refine below_set ?_ (Nat.le_refl _)) | assumption))⟩
set_option maxHeartbeats 1600000 in set_option maxRecDepth 100000 in
theorem formed_4 (n : ByteArray) (o : Int) (A : Option Addr) (m c : Nat) (w : World) (hn : n.size ≤ 1000000) (hm : m ≤ 1000000) :
    Calls Tryd.prog 61 #[.agg #[.int .i64 4, .string n, .int .i64 o, .slice A m c]] w (FmPost 4 n m w) := by
  have hnd := node3 4 n m (by omega)
  have HN := Aside0.mk (fun W => isName_any n W (by omega))
  by_cases hs : n = ⟨#[]⟩
  · subst hs
    rw [eqB_self] at hnd
    clear hn
    have HV := Aside0.mk (show nodeS 4 ⟨#[]⟩ m = ((m : Int) == 0) from by rw [hnd, Bool.true_and])
    clear hm hnd
    go_enter Tryd.func61, Tryd.ntmps61
    go_wp2_with (go_at_call 20; (with_reducible refine (HN.out _).mono ?_); rintro e w' ⟨rfl, ⟨nd, rfl⟩⟩)
    go_ret
    exact ⟨by rw [HV.out]; rfl, (by repeat (first | (with_reducible first | exact Below.refl _ _ | apply below_alloc | apply pw_below_drewN | apply below_drew1 | refine below_set ?_ (Nat.le_refl _)) | assumption))⟩
  · rw [eqB_ne hs] at hnd
    obtain ⟨qs, qe⟩ := emp_ff hs
    clear hn hs
    have HV := Aside0.mk (show nodeS 4 n m = false from by rw [hnd, Bool.false_and])
    clear hm hnd
    go_enter Tryd.func61, Tryd.ntmps61
    go_wp2_with (go_at_call 20; (with_reducible refine (HN.out _).mono ?_); rintro e w' ⟨rfl, ⟨nd, rfl⟩⟩)
    go_ret
    exact ⟨by rw [HV.out]; rfl, (by repeat (first | (with_reducible first | exact Below.refl _ _ | apply below_alloc | apply pw_below_drewN | apply below_drew1 | refine below_set ?_ (Nat.le_refl _)) | assumption))⟩
set_option maxHeartbeats 1600000 in set_option maxRecDepth 100000 in
theorem formed_5 (n : ByteArray) (o : Int) (A : Option Addr) (m c : Nat) (w : World) (hn : n.size ≤ 1000000) (hm : m ≤ 1000000) :
    Calls Tryd.prog 61 #[.agg #[.int .i64 5, .string n, .int .i64 o, .slice A m c]] w (FmPost 5 n m w) := by
  have hnd := node5 5 n m (by omega)
  have HN := Aside0.mk (fun W => isName_any n W (by omega))
  by_cases hs : n = ⟨#[]⟩
  · subst hs
    rw [eqB_self] at hnd
    clear hn
    have HV := Aside0.mk (show nodeS 5 ⟨#[]⟩ m = ((m : Int) == 2) from by rw [hnd, Bool.true_and])
    clear hm hnd
    go_enter Tryd.func61, Tryd.ntmps61
    go_wp2_with (go_at_call 20; (with_reducible refine (HN.out _).mono ?_); rintro e w' ⟨rfl, ⟨nd, rfl⟩⟩)
    go_ret
    exact ⟨by rw [HV.out]; rfl, (by repeat (first | (with_reducible first | exact Below.refl _ _ | apply below_alloc | apply pw_below_drewN | apply below_drew1 | refine below_set ?_ (Nat.le_refl _)) | assumption))⟩
  · rw [eqB_ne hs] at hnd
    obtain ⟨qs, qe⟩ := emp_ff hs
    clear hn hs
    have HV := Aside0.mk (show nodeS 5 n m = false from by rw [hnd, Bool.false_and])
    clear hm hnd
    go_enter Tryd.func61, Tryd.ntmps61
    go_wp2_with (go_at_call 20; (with_reducible refine (HN.out _).mono ?_); rintro e w' ⟨rfl, ⟨nd, rfl⟩⟩)
    go_ret
    exact ⟨by rw [HV.out]; rfl, (by repeat (first | (with_reducible first | exact Below.refl _ _ | apply below_alloc | apply pw_below_drewN | apply below_drew1 | refine below_set ?_ (Nat.le_refl _)) | assumption))⟩
set_option maxHeartbeats 1600000 in set_option maxRecDepth 100000 in
theorem formed_6 (n : ByteArray) (o : Int) (A : Option Addr) (m c : Nat) (w : World) (hn : n.size ≤ 1000000) (hm : m ≤ 1000000) :
    Calls Tryd.prog 61 #[.agg #[.int .i64 6, .string n, .int .i64 o, .slice A m c]] w (FmPost 6 n m w) := by
  have hnd := node5 6 n m (by omega)
  have HN := Aside0.mk (fun W => isName_any n W (by omega))
  by_cases hs : n = ⟨#[]⟩
  · subst hs
    rw [eqB_self] at hnd
    clear hn
    have HV := Aside0.mk (show nodeS 6 ⟨#[]⟩ m = ((m : Int) == 2) from by rw [hnd, Bool.true_and])
    clear hm hnd
    go_enter Tryd.func61, Tryd.ntmps61
    go_wp2_with (go_at_call 20; (with_reducible refine (HN.out _).mono ?_); rintro e w' ⟨rfl, ⟨nd, rfl⟩⟩)
    go_ret
    exact ⟨by rw [HV.out]; rfl, (by repeat (first | (with_reducible first | exact Below.refl _ _ | apply below_alloc | apply pw_below_drewN | apply below_drew1 | refine below_set ?_ (Nat.le_refl _)) | assumption))⟩
  · rw [eqB_ne hs] at hnd
    obtain ⟨qs, qe⟩ := emp_ff hs
    clear hn hs
    have HV := Aside0.mk (show nodeS 6 n m = false from by rw [hnd, Bool.false_and])
    clear hm hnd
    go_enter Tryd.func61, Tryd.ntmps61
    go_wp2_with (go_at_call 20; (with_reducible refine (HN.out _).mono ?_); rintro e w' ⟨rfl, ⟨nd, rfl⟩⟩)
    go_ret
    exact ⟨by rw [HV.out]; rfl, (by repeat (first | (with_reducible first | exact Below.refl _ _ | apply below_alloc | apply pw_below_drewN | apply below_drew1 | refine below_set ?_ (Nat.le_refl _)) | assumption))⟩
set_option maxHeartbeats 1600000 in set_option maxRecDepth 100000 in
theorem formed_7 (n : ByteArray) (o : Int) (A : Option Addr) (m c : Nat) (w : World) (hn : n.size ≤ 1000000) (hm : m ≤ 1000000) :
    Calls Tryd.prog 61 #[.agg #[.int .i64 7, .string n, .int .i64 o, .slice A m c]] w (FmPost 7 n m w) := by
  have HN := Aside0.mk (fun W => isName_any n W (by omega))
  have hnd := node7 7 n m (by omega)
  cases hb : nameS n with
  | true =>
    rw [hb] at HN hnd
    rw [Bool.true_or] at hnd
    clear hb hn
    by_cases h1 : m = 1
    · have q1 : ((m : Int) == 1) = true := by rw [beq_iff_eq]; omega
      rw [q1] at hnd
      clear h1
      have HV := Aside0.mk (show nodeS 7 n m = true from by rw [hnd]; rfl)
      clear hm hnd
      go_enter Tryd.func61, Tryd.ntmps61
      go_wp2_with (go_at_call 20; (with_reducible refine (HN.out _).mono ?_); rintro e w' ⟨rfl, ⟨nd, rfl⟩⟩)
      go_ret
      exact ⟨by rw [HV.out]; rfl, (by repeat (first | (with_reducible first | exact Below.refl _ _ | apply below_alloc | apply pw_below_drewN | apply below_drew1 | refine below_set ?_ (Nat.le_refl _)) | assumption))⟩
    · have q1 : ((m : Int) == 1) = false := by rw [beq_eq_false_iff_ne]; omega
      rw [q1] at hnd
      clear h1
      have HV := Aside0.mk (show nodeS 7 n m = ((m : Int) == 2) from by rw [hnd]; rfl)
      clear hm hnd
      go_enter Tryd.func61, Tryd.ntmps61
      go_wp2_with (go_at_call 20; (with_reducible refine (HN.out _).mono ?_); rintro e w' ⟨rfl, ⟨nd, rfl⟩⟩)
      go_ret
      exact ⟨by rw [HV.out]; rfl, (by repeat (first | (with_reducible first | exact Below.refl _ _ | apply below_alloc | apply pw_below_drewN | apply below_drew1 | refine below_set ?_ (Nat.le_refl _)) | assumption))⟩
  | false =>
    rw [hb] at HN hnd
    rw [Bool.false_or] at hnd
    by_cases hs : n = ⟨#[95]⟩
    · subst hs
      rw [eqB_self] at hnd
      clear hb hn
      by_cases h1 : m = 1
      · have q1 : ((m : Int) == 1) = true := by rw [beq_iff_eq]; omega
        rw [q1] at hnd
        clear h1
        have HV := Aside0.mk (show nodeS 7 ⟨#[95]⟩ m = true from by rw [hnd]; rfl)
        clear hm hnd
        go_enter Tryd.func61, Tryd.ntmps61
        go_wp2_with (go_at_call 20; (with_reducible refine (HN.out _).mono ?_); rintro e w' ⟨rfl, ⟨nd, rfl⟩⟩)
        go_ret
        exact ⟨by rw [HV.out]; rfl, (by repeat (first | (with_reducible first | exact Below.refl _ _ | apply below_alloc | apply pw_below_drewN | apply below_drew1 | refine below_set ?_ (Nat.le_refl _)) | assumption))⟩
      · have q1 : ((m : Int) == 1) = false := by rw [beq_eq_false_iff_ne]; omega
        rw [q1] at hnd
        clear h1
        have HV := Aside0.mk (show nodeS 7 ⟨#[95]⟩ m = ((m : Int) == 2) from by rw [hnd]; rfl)
        clear hm hnd
        go_enter Tryd.func61, Tryd.ntmps61
        go_wp2_with (go_at_call 20; (with_reducible refine (HN.out _).mono ?_); rintro e w' ⟨rfl, ⟨nd, rfl⟩⟩)
        go_ret
        exact ⟨by rw [HV.out]; rfl, (by repeat (first | (with_reducible first | exact Below.refl _ _ | apply below_alloc | apply pw_below_drewN | apply below_drew1 | refine below_set ?_ (Nat.le_refl _)) | assumption))⟩
    · rw [eqB_ne hs] at hnd
      have qs := lit_ff [95] hs
      clear hb hn hs
      have HV := Aside0.mk (show nodeS 7 n m = false from by rw [hnd]; rfl)
      clear hm hnd
      go_enter Tryd.func61, Tryd.ntmps61
      go_wp2_with (go_at_call 20; (with_reducible refine (HN.out _).mono ?_); rintro e w' ⟨rfl, ⟨nd, rfl⟩⟩)
      go_ret
      exact ⟨by rw [HV.out]; rfl, (by repeat (first | (with_reducible first | exact Below.refl _ _ | apply below_alloc | apply pw_below_drewN | apply below_drew1 | refine below_set ?_ (Nat.le_refl _)) | assumption))⟩
set_option maxHeartbeats 1600000 in set_option maxRecDepth 100000 in
theorem formed_8 (n : ByteArray) (o : Int) (A : Option Addr) (m c : Nat) (w : World) (hn : n.size ≤ 1000000) (hm : m ≤ 1000000) :
    Calls Tryd.prog 61 #[.agg #[.int .i64 8, .string n, .int .i64 o, .slice A m c]] w (FmPost 8 n m w) := by
  have HN := Aside0.mk (fun W => isName_any n W (by omega))
  have hnd := node7 8 n m (by omega)
  cases hb : nameS n with
  | true =>
    rw [hb] at HN hnd
    rw [Bool.true_or] at hnd
    clear hb hn
    by_cases h1 : m = 1
    · have q1 : ((m : Int) == 1) = true := by rw [beq_iff_eq]; omega
      rw [q1] at hnd
      clear h1
      have HV := Aside0.mk (show nodeS 8 n m = true from by rw [hnd]; rfl)
      clear hm hnd
      go_enter Tryd.func61, Tryd.ntmps61
      go_wp2_with (go_at_call 20; (with_reducible refine (HN.out _).mono ?_); rintro e w' ⟨rfl, ⟨nd, rfl⟩⟩)
      go_ret
      exact ⟨by rw [HV.out]; rfl, (by repeat (first | (with_reducible first | exact Below.refl _ _ | apply below_alloc | apply pw_below_drewN | apply below_drew1 | refine below_set ?_ (Nat.le_refl _)) | assumption))⟩
    · have q1 : ((m : Int) == 1) = false := by rw [beq_eq_false_iff_ne]; omega
      rw [q1] at hnd
      clear h1
      have HV := Aside0.mk (show nodeS 8 n m = ((m : Int) == 2) from by rw [hnd]; rfl)
      clear hm hnd
      go_enter Tryd.func61, Tryd.ntmps61
      go_wp2_with (go_at_call 20; (with_reducible refine (HN.out _).mono ?_); rintro e w' ⟨rfl, ⟨nd, rfl⟩⟩)
      go_ret
      exact ⟨by rw [HV.out]; rfl, (by repeat (first | (with_reducible first | exact Below.refl _ _ | apply below_alloc | apply pw_below_drewN | apply below_drew1 | refine below_set ?_ (Nat.le_refl _)) | assumption))⟩
  | false =>
    rw [hb] at HN hnd
    rw [Bool.false_or] at hnd
    by_cases hs : n = ⟨#[95]⟩
    · subst hs
      rw [eqB_self] at hnd
      clear hb hn
      by_cases h1 : m = 1
      · have q1 : ((m : Int) == 1) = true := by rw [beq_iff_eq]; omega
        rw [q1] at hnd
        clear h1
        have HV := Aside0.mk (show nodeS 8 ⟨#[95]⟩ m = true from by rw [hnd]; rfl)
        clear hm hnd
        go_enter Tryd.func61, Tryd.ntmps61
        go_wp2_with (go_at_call 20; (with_reducible refine (HN.out _).mono ?_); rintro e w' ⟨rfl, ⟨nd, rfl⟩⟩)
        go_ret
        exact ⟨by rw [HV.out]; rfl, (by repeat (first | (with_reducible first | exact Below.refl _ _ | apply below_alloc | apply pw_below_drewN | apply below_drew1 | refine below_set ?_ (Nat.le_refl _)) | assumption))⟩
      · have q1 : ((m : Int) == 1) = false := by rw [beq_eq_false_iff_ne]; omega
        rw [q1] at hnd
        clear h1
        have HV := Aside0.mk (show nodeS 8 ⟨#[95]⟩ m = ((m : Int) == 2) from by rw [hnd]; rfl)
        clear hm hnd
        go_enter Tryd.func61, Tryd.ntmps61
        go_wp2_with (go_at_call 20; (with_reducible refine (HN.out _).mono ?_); rintro e w' ⟨rfl, ⟨nd, rfl⟩⟩)
        go_ret
        exact ⟨by rw [HV.out]; rfl, (by repeat (first | (with_reducible first | exact Below.refl _ _ | apply below_alloc | apply pw_below_drewN | apply below_drew1 | refine below_set ?_ (Nat.le_refl _)) | assumption))⟩
    · rw [eqB_ne hs] at hnd
      have qs := lit_ff [95] hs
      clear hb hn hs
      have HV := Aside0.mk (show nodeS 8 n m = false from by rw [hnd]; rfl)
      clear hm hnd
      go_enter Tryd.func61, Tryd.ntmps61
      go_wp2_with (go_at_call 20; (with_reducible refine (HN.out _).mono ?_); rintro e w' ⟨rfl, ⟨nd, rfl⟩⟩)
      go_ret
      exact ⟨by rw [HV.out]; rfl, (by repeat (first | (with_reducible first | exact Below.refl _ _ | apply below_alloc | apply pw_below_drewN | apply below_drew1 | refine below_set ?_ (Nat.le_refl _)) | assumption))⟩
set_option maxHeartbeats 1600000 in set_option maxRecDepth 100000 in
theorem formed_9 (n : ByteArray) (o : Int) (A : Option Addr) (m c : Nat) (w : World) (hn : n.size ≤ 1000000) (hm : m ≤ 1000000) :
    Calls Tryd.prog 61 #[.agg #[.int .i64 9, .string n, .int .i64 o, .slice A m c]] w (FmPost 9 n m w) := by
  have hnd := node5 9 n m (by omega)
  have HN := Aside0.mk (fun W => isName_any n W (by omega))
  by_cases hs : n = ⟨#[]⟩
  · subst hs
    rw [eqB_self] at hnd
    clear hn
    have HV := Aside0.mk (show nodeS 9 ⟨#[]⟩ m = ((m : Int) == 2) from by rw [hnd, Bool.true_and])
    clear hm hnd
    go_enter Tryd.func61, Tryd.ntmps61
    go_wp2_with (go_at_call 20; (with_reducible refine (HN.out _).mono ?_); rintro e w' ⟨rfl, ⟨nd, rfl⟩⟩)
    go_ret
    exact ⟨by rw [HV.out]; rfl, (by repeat (first | (with_reducible first | exact Below.refl _ _ | apply below_alloc | apply pw_below_drewN | apply below_drew1 | refine below_set ?_ (Nat.le_refl _)) | assumption))⟩
  · rw [eqB_ne hs] at hnd
    obtain ⟨qs, qe⟩ := emp_ff hs
    clear hn hs
    have HV := Aside0.mk (show nodeS 9 n m = false from by rw [hnd, Bool.false_and])
    clear hm hnd
    go_enter Tryd.func61, Tryd.ntmps61
    go_wp2_with (go_at_call 20; (with_reducible refine (HN.out _).mono ?_); rintro e w' ⟨rfl, ⟨nd, rfl⟩⟩)
    go_ret
    exact ⟨by rw [HV.out]; rfl, (by repeat (first | (with_reducible first | exact Below.refl _ _ | apply below_alloc | apply pw_below_drewN | apply below_drew1 | refine below_set ?_ (Nat.le_refl _)) | assumption))⟩
set_option maxHeartbeats 1600000 in set_option maxRecDepth 100000 in
theorem formed_0 (k : Int) (hk : ¬ (1 ≤ k ∧ k ≤ 9)) (n : ByteArray) (o : Int) (A : Option Addr) (m c : Nat) (w : World) :
    Calls Tryd.prog 61 #[.agg #[.int .i64 k, .string n, .int .i64 o, .slice A m c]] w (FmPost k n m w) := by
  have HV := Aside0.mk (node0 k n m hk)
  have g1 : (k == 1) = false := by rw [beq_eq_false_iff_ne]; omega
  have g2 : (k == 2) = false := by rw [beq_eq_false_iff_ne]; omega
  have g3 : (k == 3) = false := by rw [beq_eq_false_iff_ne]; omega
  have g4 : (k == 4) = false := by rw [beq_eq_false_iff_ne]; omega
  have g5 : (k == 5) = false := by rw [beq_eq_false_iff_ne]; omega
  have g6 : (k == 6) = false := by rw [beq_eq_false_iff_ne]; omega
  have g7 : (k == 7) = false := by rw [beq_eq_false_iff_ne]; omega
  have g8 : (k == 8) = false := by rw [beq_eq_false_iff_ne]; omega
  have g9 : (k == 9) = false := by rw [beq_eq_false_iff_ne]; omega
  clear hk
  go_enter Tryd.func61, Tryd.ntmps61
  go_wp2
  go_ret
  exact ⟨by rw [HV.out]; rfl, (by repeat (first | (with_reducible first | exact Below.refl _ _ | apply below_alloc | apply pw_below_drewN | apply below_drew1 | refine below_set ?_ (Nat.le_refl _)) | assumption))⟩
theorem formed_any : FormedC := by
  intro k n o A m c w hn hm
  by_cases h : 1 ≤ k ∧ k ≤ 9
  · have : k = 1 ∨ k = 2 ∨ k = 3 ∨ k = 4 ∨ k = 5 ∨ k = 6 ∨ k = 7 ∨ k = 8 ∨ k = 9 := by omega
    rcases this with rfl | rfl | rfl | rfl | rfl | rfl | rfl | rfl | rfl
    · exact formed_1 n o A m c w hn hm
    · exact formed_2 n o A m c w hn hm
    · exact formed_3 n o A m c w hn hm
    · exact formed_4 n o A m c w hn hm
    · exact formed_5 n o A m c w hn hm
    · exact formed_6 n o A m c w hn hm
    · exact formed_7 n o A m c w hn hm
    · exact formed_8 n o A m c w hn hm
    · exact formed_9 n o A m c w hn hm
  · exact formed_0 k h n o A m c w
end
end Go.Proofs.YtajefkjcfmfjkaaDoor
namespace Go.Proofs.YtajefkjcfmfjkaaDoor
section
set_option linter.unusedVariables false
set_option linter.unusedSimpArgs false
set_option linter.deprecated false
open Go.RowKit Go.Proofs.YtajefkjcfmfjkaaDoorW.PrintWords Go.Proofs.YtajefkjcfmfjkaaDoor.PRawForms
set_option linter.unusedVariables false
theorem smL_len (at_ : Bool) : ∀ (l m : List S42), l.length ≠ m.length → smL at_ l m = false
  | [], [], h => by simp at h
  | [], _ :: _, _ => rfl
  | _ :: _, [], _ => rfl
  | x :: xs, y :: ys, h => by rw [smL, smL_len at_ xs ys (by simpa using h), Bool.and_false]
def SmPost (b : Bool) (w : World) (e : Ending) (w' : World) : Prop := e = .returned (.bool b) ∧ Below w.heap.size w w'
set_option maxHeartbeats 1600000 in set_option maxRecDepth 100000 in
theorem eqf_any (l m : List S42) (A B : Option Addr) (c d : Nat) (w : World) (hl : l.length ≤ 1000000) (hm : m.length ≤ 1000000) (hr : Kd.C k42 w A l.length l) (hr2 : Kd.C k42 w B m.length m)
    (HP : ∀ x ∈ l, ∀ (y : S42) (A' B' : Option Addr) (c' d' : Nat) (W : World), Below w.heap.size w W → Kd.C k42 W A' x.f3.length x.f3 → x.f3.length ≤ c' → Kd.C k42 W B' y.f3.length y.f3 → y.f3.length ≤ d' → y ∈ m → Calls Tryd.prog 41 #[.agg #[.int .i64 x.f0, .string x.f1, .int .i64 x.f2, .slice A' x.f3.length c'], .agg #[.int .i64 y.f0, .string y.f1, .int .i64 y.f2, .slice B' y.f3.length d']] W (SmPost (smT false x y) W)) :
    Calls Tryd.prog 75 #[.slice A l.length c, .slice B m.length d, .func (.func 41) #[] #[]] w (SmPost (smL false l m) w) := by
  by_cases he : l.length = m.length
  · have HR := Aside0.mk hr
    have HR2 := Aside0.mk hr2
    have HQ := Aside0.mk HP
    have HL := Aside0.mk hl
    have HE := Aside0.mk he
    have hu42 := Tryd.underlying42
    have hne : ((l.length : Int) != (m.length : Int)) = false := by rw [bne_eq_false_iff_eq]; omega
    clear hr hr2 HP he hm
    go_enter Tryd.func75, Tryd.ntmps75
    go_wp2
    go_loopw [17] (fun v w' => ∃ k : Nat, k ≤ l.length ∧ v = .int .i64 k ∧ Aside0 (smL false (l.drop k) (m.drop k) = smL false l m) ∧ Aside0 (Below w.heap.size w w')) (fun v _ => l.length - (intOf v).toNat)
    case atStart => exact ⟨0, by omega, rfl, ⟨by rw [List.drop_zero, List.drop_zero]⟩, ⟨Below.refl _ _⟩⟩
    case round =>
      obtain ⟨k, hk, rfl, HI, HB⟩ := hrel
      by_cases hlt : k < l.length
      · have hlt2 : k < m.length := by have := HE.out; omega
        have hI := HI.out
        rw [drop_rd hlt, drop_rd hlt2, smL] at hI
        obtain ⟨ad, A3, c3, hA, h0, h1, h2, h3, hc3, hC3⟩ := atn42 (Kd.C_below HR.out HB.out) k hlt
        obtain ⟨bd, B3, d3, hB, g0, g1, g2, g3, hd3, hD3⟩ := atn42 (Kd.C_below HR2.out HB.out) k hlt2
        subst hA hB
        replace g0 := fun o => pw_cell_below (below_alloc (Below.refl _ wr) o) g0
        replace g1 := fun o => pw_cell_below (below_alloc (Below.refl _ wr) o) g1
        replace g2 := fun o => pw_cell_below (below_alloc (Below.refl _ wr) o) g2
        replace g3 := fun o => pw_cell_below (below_alloc (Below.refl _ wr) o) g3
        have HM := Aside0.mk (HQ.out _ (rdT_mem hlt) (rd_T42 m (k : Int)) A3 B3 c3 d3)
        have HY := Aside0.mk (rdT_mem hlt2)
        have HX := Aside0.mk hC3
        have HX2 := Aside0.mk hD3
        have HC := Aside0.mk hc3
        have HD := Aside0.mk hd3
        have q0 := eq_true (show (0 : Int) ≤ (k : Int) by omega)
        have q1 := eq_true (show (k : Int) < (l.length : Int) by omega)
        have q2 := eq_true (show (k : Int) < (m.length : Int) by omega)
        have HLT := Aside0.mk hlt
        clear hC3 hD3 hc3 hd3 hne
        generalize rd_T42 l (k : Int) = x at *
        generalize rd_T42 m (k : Int) = y at *
        generalize smT false x y = sb at *
        cases sb with
        | false =>
          rw [Bool.false_and] at hI
          have HI2 := Aside0.mk hI
          clear hI HI hk hlt hlt2 hl
          go_wp2_with (go_at_call 41; (with_reducible refine (HM.out _ ?b1 ?b2 HC.out ?b3 HD.out HY.out).mono ?_); (case b1 => exact (by repeat (first | (with_reducible first | exact HB.out | apply below_alloc | apply pw_below_drewN | apply below_drew1 | refine below_set ?_ (Nat.le_refl _)) | assumption))); (case b2 => exact Kd.C_below HX.out (by repeat (first | (with_reducible first | exact Below.refl _ _ | apply below_alloc | apply pw_below_drewN | apply below_drew1 | refine below_set ?_ (Nat.le_refl _)) | assumption))); (case b3 => exact Kd.C_below HX2.out (by repeat (first | (with_reducible first | exact Below.refl _ _ | apply below_alloc | apply pw_below_drewN | apply below_drew1 | refine below_set ?_ (Nat.le_refl _)) | assumption))); rintro e w' ⟨rfl, hb⟩; have HB1 : Aside0 (Below w.heap.size w w') := ⟨below_step (by repeat (first | (with_reducible first | exact HB.out | apply below_alloc | apply pw_below_drewN | apply below_drew1 | refine below_set ?_ (Nat.le_refl _)) | assumption)) hb⟩; clear hb)
          go_ret
          exact ⟨by rw [← HI2.out]; rfl, HB1.out⟩
        | true =>
          rw [Bool.true_and] at hI
          have HI2 := Aside0.mk hI
          have q3 : IntKind.i64.wrap ((k : Int) + 1) = (k : Int) + 1 := IntWalk.i64_in _ (by omega)
          clear hI HI hk hlt2
          go_wp2_with (go_at_call 41; (with_reducible refine (HM.out _ ?c1 ?c2 HC.out ?c3 HD.out HY.out).mono ?_); (case c1 => exact (by repeat (first | (with_reducible first | exact HB.out | apply below_alloc | apply pw_below_drewN | apply below_drew1 | refine below_set ?_ (Nat.le_refl _)) | assumption))); (case c2 => exact Kd.C_below HX.out (by repeat (first | (with_reducible first | exact Below.refl _ _ | apply below_alloc | apply pw_below_drewN | apply below_drew1 | refine below_set ?_ (Nat.le_refl _)) | assumption))); (case c3 => exact Kd.C_below HX2.out (by repeat (first | (with_reducible first | exact Below.refl _ _ | apply below_alloc | apply pw_below_drewN | apply below_drew1 | refine below_set ?_ (Nat.le_refl _)) | assumption))); rintro e w' ⟨rfl, hb⟩; have HB1 : Aside0 (Below w.heap.size w w') := ⟨below_step (by repeat (first | (with_reducible first | exact HB.out | apply below_alloc | apply pw_below_drewN | apply below_drew1 | refine below_set ?_ (Nat.le_refl _)) | assumption)) hb⟩; clear hb)
          go_roundw
          case rel => exact ⟨k + 1, HLT.out, by go_num, HI2, HB1⟩
          case measure => simp [intOf]; omega
      · have q1 := eq_false (show ¬ ((k : Int) < (l.length : Int)) by omega)
        have hI := HI.out
        rw [List.drop_eq_nil_of_le (by omega), List.drop_eq_nil_of_le (by have := HE.out; omega), smL] at hI
        have HI2 := Aside0.mk hI
        clear hI HI hlt
        go_wp2
        go_ret
        exact ⟨by rw [← HI2.out]; rfl, HB.out⟩
  · have hne : ((l.length : Int) != (m.length : Int)) = true := by rw [bne_iff_ne]; omega
    have HS := Aside0.mk (smL_len false l m he)
    clear he hl hm hr hr2 HP
    go_enter Tryd.func75, Tryd.ntmps75
    go_wp2
    go_ret
    exact ⟨by rw [HS.out]; rfl, Below.refl _ _⟩
set_option maxHeartbeats 1600000 in set_option maxRecDepth 100000 in
theorem same42_any (n : Nat) : ∀ (t u : S42) (A B : Option Addr) (c d : Nat) (w : World), szT t ≤ n → n ≤ 1000000 → szT u ≤ 1000000 → Kd.C k42 w A t.f3.length t.f3 → t.f3.length ≤ c → Kd.C k42 w B u.f3.length u.f3 → u.f3.length ≤ d →
    Calls Tryd.prog 41 #[.agg #[.int .i64 t.f0, .string t.f1, .int .i64 t.f2, .slice A t.f3.length c], .agg #[.int .i64 u.f0, .string u.f1, .int .i64 u.f2, .slice B u.f3.length d]] w (SmPost (smT false t u) w) := by
  induction n with
  | zero => intro t u A B c d w h; have := szT_pos t; omega
  | succ n ih =>
    intro t u A B c d w hsz hn hu hr hc hr2 hd
    rw [szT_eq] at hsz hu
    have hl := szL_len t.f3
    have hl2 := szL_len u.f3
    have hS := smT_eq false t u
    rw [Bool.not_false, Bool.true_or, Bool.and_true] at hS
    have HF : Aside0 (∀ W : World, Below w.heap.size w W → Calls Tryd.prog 75 #[.slice A t.f3.length c, .slice B u.f3.length d, .func (.func 41) #[] #[]] W (SmPost (smL false t.f3 u.f3) W)) := by
      constructor
      intro W hW
      refine eqf_any t.f3 u.f3 A B c d W (by omega) (by omega) (Kd.C_below hr hW) (Kd.C_below hr2 hW) ?_
      intro x hx y A' B' c' d' W' _ h1 h2 h3 h4 hy
      exact ih x y A' B' c' d' W' (Nat.le_trans (szL_mem hx) (by omega)) (by omega) (Nat.le_trans (szL_mem hy) (by omega)) h1 h2 h3 h4
    have hu42 := Tryd.underlying42
    clear hr hr2 hsz hu hn hl hl2 ih hc hd
    by_cases c1 : t.f0 = u.f0
    · have e1 : (t.f0 == u.f0) = true := beq_iff_eq.2 c1
      by_cases c2 : t.f1 = u.f1
      · have e2 : eqB t.f1 u.f1 = true := (eqB_iff _ _).2 c2
        have e3 : (t.f1.toList == u.f1.toList) = true := by rw [c2]; exact beq_self_eq_true _
        rw [e1, e2, Bool.true_and, Bool.true_and] at hS
        have HS := Aside0.mk hS
        clear hS c1 c2 e2
        go_enter Tryd.func41, Tryd.ntmps41
        go_wp2_with (go_at_call 75; (with_reducible refine (HF.out _ ?b1).mono ?_); (case b1 => exact (by repeat (first | (with_reducible first | exact Below.refl _ _ | apply below_alloc | apply pw_below_drewN | apply below_drew1 | refine below_set ?_ (Nat.le_refl _)) | assumption))); rintro e w' ⟨rfl, hb⟩; have HB1 : Aside0 (Below w.heap.size w w') := ⟨below_step (by repeat (first | (with_reducible first | exact Below.refl _ _ | apply below_alloc | apply pw_below_drewN | apply below_drew1 | refine below_set ?_ (Nat.le_refl _)) | assumption)) hb⟩; clear hb)
        go_ret
        exact ⟨by rw [HS.out]; rfl, HB1.out⟩
      · have e3 : (t.f1.toList == u.f1.toList) = false := by rw [beq_eq_false_iff_ne]; exact fun h => c2 ((str_eq_iff _ _).1 h)
        rw [eqB_ne c2, Bool.and_false, Bool.false_and] at hS
        have HS := Aside0.mk hS
        clear hS c1 c2
        go_enter Tryd.func41, Tryd.ntmps41
        go_wp2
        go_ret
        exact ⟨by rw [HS.out]; rfl, (by repeat (first | (with_reducible first | exact Below.refl _ _ | apply below_alloc | apply pw_below_drewN | apply below_drew1 | refine below_set ?_ (Nat.le_refl _)) | assumption))⟩
    · have e1 : (t.f0 == u.f0) = false := by rw [beq_eq_false_iff_ne]; exact c1
      rw [e1, Bool.false_and, Bool.false_and] at hS
      have HS := Aside0.mk hS
      clear hS c1
      go_enter Tryd.func41, Tryd.ntmps41
      go_wp2
      go_ret
      exact ⟨by rw [HS.out]; rfl, (by repeat (first | (with_reducible first | exact Below.refl _ _ | apply below_alloc | apply pw_below_drewN | apply below_drew1 | refine below_set ?_ (Nat.le_refl _)) | assumption))⟩
end
end Go.Proofs.YtajefkjcfmfjkaaDoor
namespace Go.Proofs.YtajefkjcfmfjkaaDoor
section
set_option linter.unusedVariables false
set_option linter.unusedSimpArgs false
set_option linter.deprecated false
open Go.RowKit Go.Proofs.YtajefkjcfmfjkaaDoorW.PrintWords Go.Proofs.YtajefkjcfmfjkaaDoor.PRawForms
set_option linter.unusedVariables false
theorem infoU8 : (Tryd.prog.info? 5).map (fun i => (i.zero, i.size, i.bytes)) = some (some (.int .u8 0), 1, 1) := by kernel_rfl
theorem sizeB : (Tryd.prog.info? 84).map (fun i => i.size) = some 2 := by kernel_rfl
theorem liesB : liesAt Tryd.prog Tryd.prog.depth 84 (2 / Tryd.prog.cellsOf 84) 0 84 1 = true := by kernel_rfl
set_option maxHeartbeats 1000000 in
set_option maxRecDepth 100000 in
theorem cc_used (b : Nat) (w : World) (h0 : w.cell? ⟨b, 0, none⟩ = some (.pointer (some ⟨b, 0, none⟩))) :
    Calls Tryd.prog 93 #[.pointer (some ⟨b, 0, none⟩)] w fun e w' => e = .returned (.tuple #[]) ∧ w' = w := by
  obtain ⟨j, hj, _⟩ := Option.map_eq_some_iff.1 sizeB
  go_enter Tryd.func93, Tryd.ntmps93
  go_wp2
  rw [Lib.run_neq_ptr_same w _ Tryd.underlying82 hj]
  go_wp2
  go_end0
  exact ⟨rfl, rfl⟩
set_option maxHeartbeats 1000000 in
set_option maxRecDepth 100000 in
theorem cc_fresh (b : Nat) (w : World) (h0 : w.cell? ⟨b, 0, none⟩ = some (.pointer none)) (hsh : w.shape? b = some (84, 2)) (hfz : w.frozen? ⟨b, 0, none⟩ = false) :
    Calls Tryd.prog 93 #[.pointer (some ⟨b, 0, none⟩)] w fun e w' => e = .returned (.tuple #[]) ∧ w' = w.setCell ⟨b, 0, none⟩ (.pointer (some ⟨b, 0, none⟩)) := by
  obtain ⟨j, hj, hjs⟩ := Option.map_eq_some_iff.1 sizeB
  go_enter Tryd.func93, Tryd.ntmps93
  go_wp2
  rw [Lib.run_to_unsafe w ⟨b, 0, none⟩ Tryd.underlying82 Tryd.underlying126 hj (by rw [hjs]; decide) hsh (Nat.zero_lt_succ 1)]
  simp only [Result.andThen]
  rw [Oper.upon_value]
  go_wp2
  rw [run_callFunc_extern Tryd.func112 (by kernel_rfl) (by kernel_rfl) (by kernel_rfl) (e := Extern.AbiNoEscape.same) (by kernel_rfl)]
  rw [Lib.run_noEscape]
  simp only [Result.andThen]
  rw [Oper.upon_value]
  go_wp2
  rw [Lib.run_from_unsafe w ⟨b, 0, none⟩ Tryd.underlying126 Tryd.underlying82 hj hsh liesB]
  simp only [Result.andThen]
  rw [Oper.upon_value]
  go_wp2
  go_end0
  exact ⟨rfl, rfl⟩
theorem cc_any (B b : Nat) (bs : List Value) (w : World) (h : Lib.IsBuilderF 84 5 B b bs w) :
    Calls Tryd.prog 93 #[.pointer (some ⟨b, 0, none⟩)] w fun e w' => e = .returned (.tuple #[]) ∧ (Lib.BuilderAtF 84 5 B b (.pointer (some ⟨b, 0, none⟩)) bs w' ∧ Below B w w' ∧ Lib.OthersKept 5 (some b) w w') := by
  rcases h with h | h
  · refine (cc_fresh b w h.cell0 h.shape h.frozen0).mono ?_
    rintro e w' ⟨rfl, rfl⟩
    exact ⟨rfl, h.used _, (Below.refl B w).setCell (p := ⟨b, 0, none⟩) h.1 _, (Lib.OthersKept.refl _ _ w).setCell ⟨b, 0, none⟩ rfl _⟩
  · refine (cc_used b w h.cell0).mono ?_
    rintro e w' ⟨rfl, rfl⟩
    exact ⟨rfl, h, Below.refl B _, Lib.OthersKept.refl _ _ _⟩
set_option maxHeartbeats 2000000 in
set_option maxRecDepth 100000 in
theorem wrS_any (B b : Nat) (bs : List Value) (s : ByteArray) (w : World) (h : Lib.IsBuilderF 84 5 B b bs w) (hlen : bs.length + s.size ≤ 140737488355328) (hBw : B ≤ w.heap.size) :
    Calls Tryd.prog 66 #[.pointer (some ⟨b, 0, none⟩), .string s] w fun e w' => e = .returned (.tuple #[.int .i64 s.size, .nilIface]) ∧ (Lib.BuilderAtF 84 5 B b (.pointer (some ⟨b, 0, none⟩)) (bs ++ Lib.strCells s) w' ∧ Below B w w' ∧ Lib.OthersKept 5 (some b) w w') := by
  obtain ⟨i0, hi, hz0, hz1, hz2⟩ := info_parts infoU8
  go_enter Tryd.func66, Tryd.ntmps66
  go_wp2_with (go_at_call 93; refine (cc_any B b bs _ h).mono ?_)
  rintro e w1 ⟨rfl, h1, hb1, hk1⟩
  obtain ⟨hB, v, hbk, hown, hne⟩ := h1
  have c0 : w1.cell? ⟨b, 0, none⟩ = some (.pointer (some ⟨b, 0, none⟩)) := by rw [Lib.cell_of_heap hbk]; rfl
  have c1 : w1.cell? ⟨b, 1, none⟩ = some v := by rw [Lib.cell_of_heap hbk]; rfl
  go_wp2_with (at_builtin; refine Lib.wpList_append_own_stringF _ rfl _ _ 37 9 rfl B 5 i0 Tryd.underlying37 Tryd.underlying9 hi hz0 hz1 hz2 _ _ _ rfl hown s rfl ?c3 ?c4 ?c5 ?_)
  case c3 => unfold maxLen; omega
  case c4 => omega
  case c5 => have := hb1.size; omega
  intro v' w2 hown' hgrow _
  have hlt : b < w1.heap.size := blk_lt hbk
  have hb2 : w2.heap[b]? = some (.cells #[.pointer (some ⟨b, 0, none⟩), v] 84 (0, 0)) := by
    rw [hgrow.block b hlt (fun e => hne e.symm)]
    exact hbk
  have d0 : w2.cell? ⟨b, 0, none⟩ = some (.pointer (some ⟨b, 0, none⟩)) := by rw [Lib.cell_of_heap hb2]; rfl
  have d1 : w2.cell? ⟨b, 1, none⟩ = some v := by rw [Lib.cell_of_heap hb2]; rfl
  have f1 : w2.frozen? ⟨b, 1, none⟩ = false := Lib.frozen_of_heap hb2 1
  obtain ⟨ao, n', cap, rfl⟩ : ∃ ao n' cap, v' = .slice ao n' cap := by
    rcases hown'.2 with ⟨hv, _⟩ | ⟨g, cap, cur, fz, hv, _⟩
    · exact ⟨_, _, _, hv⟩
    · exact ⟨_, _, _, hv⟩
  go_wp2
  go_ret2
  refine ⟨rfl, ?_, ?_, (hk1.grown hgrow (Lib.ownsRowF_kind hown)).setCell ⟨b, 1, none⟩ rfl _⟩
  · exact Lib.BuilderAtF.put (T := 84) (e := 5) hB hb2 (bs' := bs ++ Lib.strCells s) (by simpa [Lib.strCells_length] using hown') (by decide)
  · exact (hb1.grown hgrow (by have := hb1.size; omega) (fun k hk => (hown.lt k hk).1)).setCell (p := ⟨b, 1, none⟩) hB _
end
end Go.Proofs.YtajefkjcfmfjkaaDoor
namespace Go.Proofs.YtajefkjcfmfjkaaDoor
section
set_option linter.unusedVariables false
set_option linter.unusedSimpArgs false
set_option linter.deprecated false
open Go.RowKit Go.Proofs.YtajefkjcfmfjkaaDoorW.PrintWords Go.Proofs.YtajefkjcfmfjkaaDoor.PRawForms
/-- parts with something between them -/
def twoS (op mid en : List UInt8) (ps : List (List UInt8)) : List UInt8 :=
  op ++ ((if ps.length = 2 then ps.getD 0 [] ++ mid else []) ++ (ps.getD (ps.length - 1) [] ++ en))
/-- a binder -/
def bindS (op en n : List UInt8) (ps : List (List UInt8)) : List UInt8 :=
  ([40] ++ op ++ n) ++ (if ps.length = 1 then (en ++ [32]) ++ twoS [] [] [41] ps else twoS [58] (en ++ [32]) [41] ps)
def inQ (q : List ByteArray) (n : ByteArray) : Bool := q.any fun x => eqB x n
def nodeX (q : List ByteArray) (k : Int) (n : ByteArray) (ps : List (List UInt8)) : List UInt8 :=
  if k = 1 then (if inQ q n then [40] ++ n.data.toList ++ [41] else n.data.toList)
  else if k = 2 then [64] ++ n.data.toList
  else if k = 3 then [95]
  else if k = 4 then [116, 121, 112, 101]
  else if k = 5 then twoS [40] [32] [41] ps
  else if k = 6 then twoS [40] [32, 45, 62, 32] [41] ps
  else if k = 7 then bindS [123] [125] n.data.toList ps
  else if k = 8 then bindS [91] [93] n.data.toList ps
  else if k = 9 then twoS [40] [32, 58, 32] [41] ps
  else []
mutual
def fxT (q : List ByteArray) : S42 → List UInt8
  | ⟨k, n, _, l⟩ => nodeX q k n (fxL q l)
def fxL (q : List ByteArray) : List S42 → List (List UInt8)
  | [] => []
  | x :: xs => fxT q x :: fxL q xs
end
theorem fxT_eq (q : List ByteArray) (t : S42) : fxT q t = nodeX q t.f0 t.f1 (fxL q t.f3) := by cases t; rw [fxT]
theorem fxL_map (q : List ByteArray) (l : List S42) : fxL q l = l.map (fxT q) := by
  induction l with
  | nil => rfl
  | cons y ys ih => rw [fxL, ih]; rfl
theorem fxL_len (q : List ByteArray) (l : List S42) : (fxL q l).length = l.length := by rw [fxL_map, List.length_map]
def sumL (ps : List (List UInt8)) : Nat := (ps.map List.length).sum
theorem getD_le (ps : List (List UInt8)) (i : Nat) : (ps.getD i []).length ≤ sumL ps := by
  induction ps generalizing i with
  | nil => simp [sumL]
  | cons p ps ih =>
    cases i with
    | zero => simp [sumL]
    | succ i => have := ih i; simp [sumL] at this ⊢; omega
theorem two_le (ps : List (List UInt8)) (h : ps.length = 2) : (ps.getD 0 []).length + (ps.getD 1 []).length = sumL ps := by
  match ps, h with
  | [a, b], _ => simp [sumL]
theorem twoS_len (op mid en : List UInt8) (ps : List (List UInt8)) : (twoS op mid en ps).length ≤ op.length + mid.length + en.length + sumL ps := by
  unfold twoS
  by_cases h : ps.length = 2
  · have := two_le ps h
    rw [if_pos h]; simp only [List.length_append, h, show 2 - 1 = 1 from rfl]; omega
  · have := getD_le ps (ps.length - 1)
    rw [if_neg h]; simp only [List.length_append, List.length_nil]; omega
theorem nodeX_len (q : List ByteArray) (k : Int) (n : ByteArray) (ps : List (List UInt8)) (hn : n.size ≤ 64) : (nodeX q k n ps).length ≤ 80 + sumL ps := by
  have hd : n.data.toList.length = n.size := len_data n
  have tw := fun op mid en => twoS_len op mid en ps
  have bd : ∀ op en : List UInt8, op.length = 1 → en.length = 1 → (bindS op en n.data.toList ps).length ≤ 80 + sumL ps := by
    intro op en h1 h2
    unfold bindS
    split
    · have := tw [] [] [41]; simp only [List.length_append, List.length_cons, List.length_nil] at this ⊢; omega
    · have := tw [58] (en ++ [32]) [41]; simp only [List.length_append, List.length_cons, List.length_nil] at this ⊢; omega
  unfold nodeX
  split
  · split
    · simp only [List.length_append, List.length_cons, List.length_nil]; omega
    · omega
  split
  · simp only [List.length_append, List.length_cons, List.length_nil]; omega
  split
  · simp only [List.length_cons, List.length_nil]; omega
  split
  · simp only [List.length_cons, List.length_nil]; omega
  split
  · have := tw [40] [32] [41]; simp only [List.length_cons, List.length_nil] at this; omega
  split
  · have := tw [40] [32, 45, 62, 32] [41]; simp only [List.length_cons, List.length_nil] at this; omega
  split
  · exact bd _ _ rfl rfl
  split
  · exact bd _ _ rfl rfl
  split
  · have := tw [40] [32, 58, 32] [41]; simp only [List.length_cons, List.length_nil] at this; omega
  · simp
theorem fxT_len (q : List ByteArray) (n : Nat) : ∀ t : S42, szT t ≤ n → nmT t = true → (fxT q t).length ≤ 80 * szT t := by
  induction n with
  | zero => intro t h; have := szT_pos t; omega
  | succ n ih =>
    intro t h hn
    rw [szT_eq] at h
    rw [nmT_eq, Bool.and_eq_true, decide_eq_true_eq] at hn
    have hl : ∀ l : List S42, szL l ≤ n → nmL l = true → sumL (fxL q l) ≤ 80 * szL l := by
      intro l
      induction l with
      | nil => intro _ _; simp [fxL, sumL]
      | cons x xs ih2 =>
        intro h1 h2
        rw [szL] at h1 ⊢
        rw [nmL, Bool.and_eq_true] at h2
        have a1 := ih x (by omega) h2.1
        have a2 := ih2 (by omega) h2.2
        rw [fxL]
        simp only [sumL, List.map_cons, List.sum_cons] at a2 ⊢
        omega
    have := hl t.f3 (by omega) hn.2
    have h2 := nodeX_len q t.f0 t.f1 (fxL q t.f3) hn.1
    rw [fxT_eq, szT_eq]
    omega
end
end Go.Proofs.YtajefkjcfmfjkaaDoor
namespace Go.Proofs.YtajefkjcfmfjkaaDoor
section
set_option linter.unusedVariables false
set_option linter.unusedSimpArgs false
set_option linter.deprecated false
open Go.RowKit Go.Proofs.YtajefkjcfmfjkaaDoorW.PrintWords Go.Proofs.YtajefkjcfmfjkaaDoor.PRawForms
set_option linter.unusedVariables false
/-- what stands while a text is written: the builder (block b) holds l, the closures lie in their boxes -/
structure FxSt (w0 : World) (q b cw ct cb : Nat) (qv : Value) (l : List UInt8) (W : World) : Prop where
  bu : Lib.IsBuilderF 84 5 w0.heap.size b (Lib.byteCells l) W
  hq : W.heap[q]? = some (.cells #[qv] 38 (0, 0))
  hw : W.heap[cw]? = some (.cells #[.func (.func 68) #[] #[.pointer (some ⟨q, 0, none⟩), .pointer (some ⟨b, 0, none⟩), .pointer (some ⟨ct, 0, none⟩), .pointer (some ⟨cb, 0, none⟩)]] 53 (0, 0))
  ht : W.heap[ct]? = some (.cells #[.func (.func 65) #[] #[.pointer (some ⟨b, 0, none⟩), .pointer (some ⟨cw, 0, none⟩)]] 89 (0, 0))
  hb : W.heap[cb]? = some (.cells #[.func (.func 67) #[] #[.pointer (some ⟨b, 0, none⟩), .pointer (some ⟨ct, 0, none⟩)]] 90 (0, 0))
  be : Below w0.heap.size w0 W
section
variable {w0 W W' : World} {q b cw ct cb : Nat} {qv : Value} {l l' : List UInt8}
theorem FxSt.blk (h : FxSt w0 q b cw ct cb qv l W) : ∃ p v, W.heap[b]? = some (.cells #[p, v] 84 (0, 0)) := by
  rcases h.bu with ⟨_, v, hb, _⟩ | ⟨_, v, hb, _⟩
  · exact ⟨_, v, hb⟩
  · exact ⟨_, v, hb⟩
theorem FxSt.keep (h : FxSt w0 q b cw ct cb qv l W) (ho : Lib.OthersKept 5 (some b) W W') {k T : Nat} {cs : Array Value} (hk : W.heap[k]? = some (.cells cs T (0, 0))) (h5 : T ≠ 5) (h84 : T ≠ 84) : W'.heap[k]? = some (.cells cs T (0, 0)) := by
  obtain ⟨p, v, hb⟩ := h.blk
  refine ho k _ hk ?_ ?_
  · intro e
    injection e with e
    subst e
    rw [hk] at hb
    injection hb with hb
    injection hb with _ hb
    exact h84 hb
  · intro c fz e
    injection e with _ e
    exact h5 e
theorem FxSt.step (h : FxSt w0 q b cw ct cb qv l W) (ho : Lib.OthersKept 5 (some b) W W') (hu : Lib.IsBuilderF 84 5 w0.heap.size b (Lib.byteCells l') W') (hb : Below w0.heap.size w0 W') : FxSt w0 q b cw ct cb qv l' W' :=
  ⟨hu, h.keep ho h.hq (by decide) (by decide), h.keep ho h.hw (by decide) (by decide), h.keep ho h.ht (by decide) (by decide), h.keep ho h.hb (by decide) (by decide), hb⟩
theorem FxSt.alloc (h : FxSt w0 q b cw ct cb qv l W) (o : Obj) : FxSt w0 q b cw ct cb qv l (W.alloc o) :=
  h.step ((Lib.OthersKept.refl _ _ W).alloc o) (Lib.IsBuilderF.alloc h.bu o) (below_alloc h.be o)
theorem FxSt.drew (h : FxSt w0 q b cw ct cb qv l W) : FxSt w0 q b cw ct cb qv l W.drew :=
  ⟨h.bu, h.hq, h.hw, h.ht, h.hb, below_drew h.be⟩
theorem wr_st (h : FxSt w0 q b cw ct cb qv l W) (s : ByteArray) (hl : l.length + s.size ≤ 140737488355328) :
    Calls Tryd.prog 66 #[.pointer (some ⟨b, 0, none⟩), .string s] W fun e w' => e = .returned (.tuple #[.int .i64 s.size, .nilIface]) ∧ FxSt w0 q b cw ct cb qv (l ++ s.data.toList) w' ∧ Lib.OthersKept 5 (some b) W w' := by
  refine (wrS_any w0.heap.size b (Lib.byteCells l) s W h.bu (by rw [Lib.byteCells_length]; exact hl) (below_size h.be)).mono ?_
  rintro e w' ⟨rfl, hu, hb, ho⟩
  rw [Lib.strCells_eq, ← Lib.byteCells_append] at hu
  exact ⟨rfl, h.step ho (.inr hu) (h.be.trans hb), ho⟩
end
def FxPost (w0 : World) (q b cw ct cb : Nat) (qv : Value) (l : List UInt8) (W : World) (e : Ending) (w' : World) : Prop :=
  e = .returned (.tuple #[]) ∧ FxSt w0 q b cw ct cb qv l w' ∧ Lib.OthersKept 5 (some b) W w'
/-- what 'write' does at a tree, wherever it is called -/
def WrC (w0 : World) (q b cw ct cb : Nat) (qv : Value) (ql : List ByteArray) (N : Nat) (x : S42) : Prop :=
  ∀ (A : Option Addr) (c : Nat) (l : List UInt8) (W : World), FxSt w0 q b cw ct cb qv l W → Kd.C k42 w0 A x.f3.length x.f3 → x.f3.length ≤ c → l.length + 80 * szT x ≤ N →
    Calls Tryd.prog 68 #[.agg #[.int .i64 x.f0, .string x.f1, .int .i64 x.f2, .slice A x.f3.length c], .pointer (some ⟨q, 0, none⟩), .pointer (some ⟨b, 0, none⟩), .pointer (some ⟨ct, 0, none⟩), .pointer (some ⟨cb, 0, none⟩)] W (FxPost w0 q b cw ct cb qv (l ++ fxT ql x) W)
theorem Addr.add_zero42 (ad : Addr) : ad.add (0 * 4) = ad := by
  cases ad
  unfold Addr.add
  split <;> simp_all
theorem Addr.add_one42 (ad : Addr) : ad.add (1 * 4) = ⟨ad.block, ad.off + 4, none⟩ := by
  cases ad
  unfold Addr.add
  split <;> simp_all
set_option maxHeartbeats 4000000 in
set_option maxRecDepth 100000 in
theorem two2_any (w0 : World) (q b cw ct cb : Nat) (qv : Value) (ql : List ByteArray) (N : Nat) (hN : N ≤ 100000000) (k : Int) (n : ByteArray) (o : Int) (x y : S42) (A : Option Addr) (c : Nat) (op mid en : ByteArray) (l : List UInt8) (W : World)
    (hs : FxSt w0 q b cw ct cb qv l W) (hr : Kd.C k42 w0 A 2 [x, y]) (hx : WrC w0 q b cw ct cb qv ql N x) (hy : WrC w0 q b cw ct cb qv ql N y)
    (hop : op.size ≤ 64) (hmid : mid.size ≤ 64) (hen : en.size ≤ 64) (hN1 : l.length + op.size + 80 * szT x + mid.size + 80 * szT y ≤ N) (hlx : (fxT ql x).length ≤ 80 * szT x) (hly : (fxT ql y).length ≤ 80 * szT y) :
    Calls Tryd.prog 65 #[.agg #[.int .i64 k, .string n, .int .i64 o, .slice A 2 c], .string op, .string mid, .string en, .pointer (some ⟨b, 0, none⟩), .pointer (some ⟨cw, 0, none⟩)] W
      (FxPost w0 q b cw ct cb qv (l ++ twoS op.data.toList mid.data.toList en.data.toList [fxT ql x, fxT ql y]) W) := by
  have ST0 := Aside0.mk (hs.alloc (.cells #[.int .i64 k, .string n, .int .i64 o, .slice A 2 c] 42))
  have BX0 : Aside0 ((W.alloc (.cells #[.int .i64 k, .string n, .int .i64 o, .slice A 2 c] 42)).heap[W.heap.size]? = some (.cells #[.int .i64 k, .string n, .int .i64 o, .slice A 2 c] 42 (0, 0))) := ⟨heap_alloc_new _ _⟩
  have OK0 : Aside0 (Lib.OthersKept 5 (some b) W (W.alloc (.cells #[.int .i64 k, .string n, .int .i64 o, .slice A 2 c] 42))) := ⟨(Lib.OthersKept.refl _ _ W).alloc _⟩
  have lop : op.data.toList.length = op.size := len_data op
  have lmid : mid.data.toList.length = mid.size := len_data mid
  have HL0 : Aside0 (l.length + op.size ≤ 140737488355328) := ⟨by omega⟩
  have HL1 : Aside0 ((l ++ op.data.toList).length + 80 * szT x ≤ N) := ⟨by rw [List.length_append, lop]; omega⟩
  have HL2 : Aside0 ((l ++ op.data.toList ++ fxT ql x).length + mid.size ≤ 140737488355328) := ⟨by rw [List.length_append, List.length_append, lop]; omega⟩
  have HL3 : Aside0 ((l ++ op.data.toList ++ fxT ql x ++ mid.data.toList).length + 80 * szT y ≤ N) := ⟨by rw [List.length_append, List.length_append, List.length_append, lop, lmid]; omega⟩
  have HL4 : Aside0 ((l ++ op.data.toList ++ fxT ql x ++ mid.data.toList ++ fxT ql y).length + en.size ≤ 140737488355328) := ⟨by rw [List.length_append, List.length_append, List.length_append, List.length_append, lop, lmid]; omega⟩
  have HX := Aside0.mk hx
  have HY := Aside0.mk hy
  obtain ⟨ad, A0, c0, hA, e0, e1, e2, e3, hc0, hC0⟩ := atn42 hr 0 (by omega)
  obtain ⟨ad', A1, c1, hA', f0, f1, f2, f3, hc1, hC1⟩ := atn42 hr 1 (by omega)
  subst hA
  obtain rfl := Option.some.inj hA'
  rw [show rd_T42 [x, y] ((0 : Nat) : Int) = x from rfl] at e0 e1 e2 e3 hc0 hC0
  rw [show ad.add (0 * 4) = ad from Addr.add_zero42 ad] at e0 e1 e2 e3
  rw [show rd_T42 [x, y] ((1 : Nat) : Int) = y from rfl] at f0 f1 f2 f3 hc1 hC1
  rw [Addr.add_one42 ad] at f0 f1 f2 f3
  simp only at f1 f2 f3
  have E0 := Aside0.mk (And.intro e0 (And.intro e1 (And.intro e2 e3)))
  have F0 := Aside0.mk (And.intro f0 (And.intro f1 (And.intro f2 f3)))
  have C0 := Aside0.mk (And.intro hc0 hC0)
  have C1 := Aside0.mk (And.intro hc1 hC1)
  clear e0 e1 e2 e3 f0 f1 f2 f3 hc0 hC0 hc1 hC1
  have hu42 := Tryd.underlying42
  have HE : Aside0 (l ++ twoS op.data.toList mid.data.toList en.data.toList [fxT ql x, fxT ql y] = l ++ op.data.toList ++ fxT ql x ++ mid.data.toList ++ fxT ql y ++ en.data.toList) := ⟨by simp [twoS]⟩
  clear hs hr hx hy hop hmid hen hN1 hlx hly lop lmid hN
  go_enter Tryd.func65, Tryd.ntmps65
  go_wp2_with fail
  go_at_call 66
  refine (wr_st ST0.out op HL0.out).mono ?_
  rintro e w1 ⟨rfl, hs, ho⟩
  have BX1 := Aside0.mk (ST0.out.keep ho BX0.out (by decide) (by decide))
  have OK1 := Aside0.mk (OK0.out.trans ho)
  have ST1 := Aside0.mk hs
  have m3 : w1.cell? ⟨W.heap.size, 3, none⟩ = some (.slice (some ad) 2 c) := (blk_cell BX1.out 3).trans rfl
  have mw : w1.cell? ⟨cw, 0, none⟩ = some (.func (.func 68) #[] #[.pointer (some ⟨q, 0, none⟩), .pointer (some ⟨b, 0, none⟩), .pointer (some ⟨ct, 0, none⟩), .pointer (some ⟨cb, 0, none⟩)]) := (blk_cell hs.hw 0).trans rfl
  have e0 := pw_cell_below hs.be E0.out.1
  have e1 := pw_cell_below hs.be E0.out.2.1
  have e2 := pw_cell_below hs.be E0.out.2.2.1
  have e3 := pw_cell_below hs.be E0.out.2.2.2
  clear hs ho
  go_wp2_with fail
  go_still_tail 5, (by kernel_rfl)
  change wpList _ _ _ _ _ w1.drew
  have ST1d := Aside0.mk ST1.out.drew
  have OK1d := Aside0.mk OK1.out.drew
  have BX1d : Aside0 (w1.drew.heap[W.heap.size]? = _) := ⟨BX1.out⟩
  clear ST1 OK1 BX1 e0 e1 e2 e3 mw m3
  generalize w1.drew = w2 at *
  go_wp2_with fail
  go_at_call 68
  refine (HX.out A0 c0 _ _ ST1d.out C0.out.2 C0.out.1 HL1.out).mono ?_
  rintro e w3 ⟨rfl, hs, ho⟩
  have BX3 := Aside0.mk (ST1d.out.keep ho BX1d.out (by decide) (by decide))
  have OK3 := Aside0.mk (OK1d.out.trans ho)
  have ST3 := Aside0.mk hs
  clear hs ho ST1d OK1d BX1d
  go_wp2_with fail
  go_at_call 66
  refine (wr_st ST3.out mid HL2.out).mono ?_
  rintro e w4 ⟨rfl, hs, ho⟩
  have BX4 := Aside0.mk (ST3.out.keep ho BX3.out (by decide) (by decide))
  have OK4 := Aside0.mk (OK3.out.trans ho)
  have ST4 := Aside0.mk hs
  have m3 : w4.cell? ⟨W.heap.size, 3, none⟩ = some (.slice (some ad) 2 c) := (blk_cell BX4.out 3).trans rfl
  have mw : w4.cell? ⟨cw, 0, none⟩ = some (.func (.func 68) #[] #[.pointer (some ⟨q, 0, none⟩), .pointer (some ⟨b, 0, none⟩), .pointer (some ⟨ct, 0, none⟩), .pointer (some ⟨cb, 0, none⟩)]) := (blk_cell hs.hw 0).trans rfl
  have e0 := pw_cell_below hs.be F0.out.1
  have e1 := pw_cell_below hs.be F0.out.2.1
  have e2 := pw_cell_below hs.be F0.out.2.2.1
  have e3 := pw_cell_below hs.be F0.out.2.2.2
  have q1 : IntKind.i64.wrap 1 = 1 := by decide
  clear hs ho ST3 OK3 BX3
  go_wp2_with fail
  go_still_tail 9, (by kernel_rfl)
  change wpList _ _ _ _ _ w4.drew
  have ST4d := Aside0.mk ST4.out.drew
  have OK4d := Aside0.mk OK4.out.drew
  clear ST4 OK4 BX4 e0 e1 e2 e3 mw m3
  generalize w4.drew = w5 at *
  go_wp2_with fail
  go_at_call 68
  refine (HY.out A1 c1 _ _ ST4d.out C1.out.2 C1.out.1 HL3.out).mono ?_
  rintro e w6 ⟨rfl, hs, ho⟩
  have OK6 := Aside0.mk (OK4d.out.trans ho)
  have ST6 := Aside0.mk hs
  clear hs ho ST4d OK4d
  go_wp2_with fail
  go_at_call 66
  refine (wr_st ST6.out en HL4.out).mono ?_
  rintro e w7 ⟨rfl, hs, ho⟩
  have OK7 := Aside0.mk (OK6.out.trans ho)
  have ST7 := Aside0.mk hs
  clear hs ho ST6 OK6
  go_wp2_with fail
  go_end0
  exact ⟨rfl, by rw [HE.out]; exact ST7.out, OK7.out⟩
set_option maxHeartbeats 4000000 in
set_option maxRecDepth 100000 in
theorem two1_any (w0 : World) (q b cw ct cb : Nat) (qv : Value) (ql : List ByteArray) (N : Nat) (hN : N ≤ 100000000) (k : Int) (n : ByteArray) (o : Int) (y : S42) (A : Option Addr) (c : Nat) (op mid en : ByteArray) (l : List UInt8) (W : World)
    (hs : FxSt w0 q b cw ct cb qv l W) (hr : Kd.C k42 w0 A 1 [y]) (hy : WrC w0 q b cw ct cb qv ql N y)
    (hop : op.size ≤ 64) (hen : en.size ≤ 64) (hN1 : l.length + op.size + 80 * szT y ≤ N) (hly : (fxT ql y).length ≤ 80 * szT y) :
    Calls Tryd.prog 65 #[.agg #[.int .i64 k, .string n, .int .i64 o, .slice A 1 c], .string op, .string mid, .string en, .pointer (some ⟨b, 0, none⟩), .pointer (some ⟨cw, 0, none⟩)] W
      (FxPost w0 q b cw ct cb qv (l ++ twoS op.data.toList mid.data.toList en.data.toList [fxT ql y]) W) := by
  have ST0 := Aside0.mk (hs.alloc (.cells #[.int .i64 k, .string n, .int .i64 o, .slice A 1 c] 42))
  have BX0 : Aside0 ((W.alloc (.cells #[.int .i64 k, .string n, .int .i64 o, .slice A 1 c] 42)).heap[W.heap.size]? = some (.cells #[.int .i64 k, .string n, .int .i64 o, .slice A 1 c] 42 (0, 0))) := ⟨heap_alloc_new _ _⟩
  have OK0 : Aside0 (Lib.OthersKept 5 (some b) W (W.alloc (.cells #[.int .i64 k, .string n, .int .i64 o, .slice A 1 c] 42))) := ⟨(Lib.OthersKept.refl _ _ W).alloc _⟩
  have lop : op.data.toList.length = op.size := len_data op
  have HL0 : Aside0 (l.length + op.size ≤ 140737488355328) := ⟨by omega⟩
  have HL3 : Aside0 ((l ++ op.data.toList).length + 80 * szT y ≤ N) := ⟨by rw [List.length_append, lop]; omega⟩
  have HL4 : Aside0 ((l ++ op.data.toList ++ fxT ql y).length + en.size ≤ 140737488355328) := ⟨by rw [List.length_append, List.length_append, lop]; omega⟩
  have HY := Aside0.mk hy
  obtain ⟨ad, A1, c1, hA', f0, f1, f2, f3, hc1, hC1⟩ := atn42 hr 0 (by omega)
  subst hA'
  rw [show rd_T42 [y] ((0 : Nat) : Int) = y from rfl] at f0 f1 f2 f3 hc1 hC1
  rw [show ad.add (0 * 4) = ad from Addr.add_zero42 ad] at f0 f1 f2 f3
  have F0 := Aside0.mk (And.intro f0 (And.intro f1 (And.intro f2 f3)))
  have C1 := Aside0.mk (And.intro hc1 hC1)
  clear f0 f1 f2 f3 hc1 hC1
  have hu42 := Tryd.underlying42
  have HE : Aside0 (l ++ twoS op.data.toList mid.data.toList en.data.toList [fxT ql y] = l ++ op.data.toList ++ fxT ql y ++ en.data.toList) := ⟨by simp [twoS]⟩
  have q1 : IntKind.i64.wrap 0 = 0 := by decide
  clear hs hr hy hop hen hN1 hly lop hN
  go_enter Tryd.func65, Tryd.ntmps65
  go_wp2_with fail
  go_at_call 66
  refine (wr_st ST0.out op HL0.out).mono ?_
  rintro e w4 ⟨rfl, hs, ho⟩
  have BX4 := Aside0.mk (ST0.out.keep ho BX0.out (by decide) (by decide))
  have OK4 := Aside0.mk (OK0.out.trans ho)
  have ST4 := Aside0.mk hs
  have m3 : w4.cell? ⟨W.heap.size, 3, none⟩ = some (.slice (some ad) 1 c) := (blk_cell BX4.out 3).trans rfl
  have mw : w4.cell? ⟨cw, 0, none⟩ = some (.func (.func 68) #[] #[.pointer (some ⟨q, 0, none⟩), .pointer (some ⟨b, 0, none⟩), .pointer (some ⟨ct, 0, none⟩), .pointer (some ⟨cb, 0, none⟩)]) := (blk_cell hs.hw 0).trans rfl
  have e0 := pw_cell_below hs.be F0.out.1
  have e1 := pw_cell_below hs.be F0.out.2.1
  have e2 := pw_cell_below hs.be F0.out.2.2.1
  have e3 := pw_cell_below hs.be F0.out.2.2.2
  clear hs ho ST0 OK0 BX0
  go_wp2_with fail
  go_still_tail 9, (by kernel_rfl)
  change wpList _ _ _ _ _ w4.drew
  have ST4d := Aside0.mk ST4.out.drew
  have OK4d := Aside0.mk OK4.out.drew
  clear ST4 OK4 BX4 e0 e1 e2 e3 mw m3
  generalize w4.drew = w5 at *
  go_wp2_with fail
  go_at_call 68
  refine (HY.out A1 c1 _ _ ST4d.out C1.out.2 C1.out.1 HL3.out).mono ?_
  rintro e w6 ⟨rfl, hs, ho⟩
  have OK6 := Aside0.mk (OK4d.out.trans ho)
  have ST6 := Aside0.mk hs
  clear hs ho ST4d OK4d
  go_wp2_with fail
  go_at_call 66
  refine (wr_st ST6.out en HL4.out).mono ?_
  rintro e w7 ⟨rfl, hs, ho⟩
  have OK7 := Aside0.mk (OK6.out.trans ho)
  have ST7 := Aside0.mk hs
  clear hs ho ST6 OK6
  go_wp2_with fail
  go_end0
  exact ⟨rfl, by rw [HE.out]; exact ST7.out, OK7.out⟩
/-- what 'two' does at a tree's parts -/
def TwC (w0 : World) (q b cw ct cb : Nat) (qv : Value) (ql : List ByteArray) (N : Nat) (t : S42) (A : Option Addr) (c : Nat) : Prop :=
  ∀ (op mid en : ByteArray) (l : List UInt8) (W : World), FxSt w0 q b cw ct cb qv l W → op.size ≤ 64 → mid.size ≤ 64 → en.size ≤ 64 → l.length + op.size + mid.size + en.size + 80 * szL t.f3 ≤ N →
    Calls Tryd.prog 65 #[.agg #[.int .i64 t.f0, .string t.f1, .int .i64 t.f2, .slice A t.f3.length c], .string op, .string mid, .string en, .pointer (some ⟨b, 0, none⟩), .pointer (some ⟨cw, 0, none⟩)] W
      (FxPost w0 q b cw ct cb qv (l ++ twoS op.data.toList mid.data.toList en.data.toList (fxL ql t.f3)) W)
theorem two_any (w0 : World) (q b cw ct cb : Nat) (qv : Value) (ql : List ByteArray) (N : Nat) (hN : N ≤ 100000000) (t : S42) (A : Option Addr) (c : Nat) (hr : Kd.C k42 w0 A t.f3.length t.f3) (hl : t.f3.length = 1 ∨ t.f3.length = 2) (hn : nmL t.f3 = true)
    (hx : ∀ x ∈ t.f3, WrC w0 q b cw ct cb qv ql N x) : TwC w0 q b cw ct cb qv ql N t A c := by
  intro op mid en l W hs hop hmid hen hN1
  obtain ⟨k, n, o, args⟩ := t
  simp only at hr hl hx hN1 hn ⊢
  match args, hl with
  | [y], _ =>
    rw [nmL_all] at hn
    simp only [List.all_cons, List.all_nil, Bool.and_true] at hn
    rw [szL, szL] at hN1
    have := two1_any w0 q b cw ct cb qv ql N hN k n o y A c op mid en l W hs hr (hx y (by simp)) hop hen (by omega) (fxT_len ql _ y (Nat.le_refl _) hn)
    rw [fxL, fxL]
    exact this
  | [x, y], _ =>
    rw [nmL_all] at hn
    simp only [List.all_cons, List.all_nil, Bool.and_true, Bool.and_eq_true] at hn
    rw [szL, szL, szL] at hN1
    have := two2_any w0 q b cw ct cb qv ql N hN k n o x y A c op mid en l W hs hr (hx x (by simp)) (hx y (by simp)) hop hmid hen (by omega) (fxT_len ql _ x (Nat.le_refl _) hn.1) (fxT_len ql _ y (Nat.le_refl _) hn.2)
    rw [fxL, fxL, fxL]
    exact this
theorem ba_app (a b : ByteArray) : (a ++ b).data.toList = a.data.toList ++ b.data.toList := by
  rw [ByteArray.data_append, Array.toList_append]
theorem ba_size (a b : ByteArray) : (a ++ b).size = a.size + b.size := ByteArray.size_append
set_option maxHeartbeats 4000000 in
set_option maxRecDepth 100000 in
theorem bind_any (w0 : World) (q b cw ct cb : Nat) (qv : Value) (ql : List ByteArray) (N : Nat) (hN : N ≤ 100000000) (t : S42) (A : Option Addr) (c : Nat) (hl : t.f3.length = 1 ∨ t.f3.length = 2) (hn : t.f1.size ≤ 64)
    (hT : TwC w0 q b cw ct cb qv ql N t A c) (op en : ByteArray) (l : List UInt8) (W : World) (hs : FxSt w0 q b cw ct cb qv l W) (hop : op.size = 1) (hen : en.size = 1) (hN1 : l.length + 80 + 80 * szL t.f3 ≤ N) :
    Calls Tryd.prog 67 #[.agg #[.int .i64 t.f0, .string t.f1, .int .i64 t.f2, .slice A t.f3.length c], .string op, .string en, .pointer (some ⟨b, 0, none⟩), .pointer (some ⟨ct, 0, none⟩)] W
      (FxPost w0 q b cw ct cb qv (l ++ bindS op.data.toList en.data.toList t.f1.data.toList (fxL ql t.f3)) W) := by
  obtain ⟨k, n, o, args⟩ := t
  simp only at hl hn hN1 ⊢
  generalize hm : args.length = m at hl ⊢
  have hfl := fxL_len ql args
  rw [hm] at hfl
  have ST0 := Aside0.mk (hs.alloc (.cells #[.int .i64 k, .string n, .int .i64 o, .slice A m c] 42))
  have BX0 : Aside0 ((W.alloc (.cells #[.int .i64 k, .string n, .int .i64 o, .slice A m c] 42)).heap[W.heap.size]? = some (.cells #[.int .i64 k, .string n, .int .i64 o, .slice A m c] 42 (0, 0))) := ⟨heap_alloc_new _ _⟩
  have OK0 : Aside0 (Lib.OthersKept 5 (some b) W (W.alloc (.cells #[.int .i64 k, .string n, .int .i64 o, .slice A m c] 42))) := ⟨(Lib.OthersKept.refl _ _ W).alloc _⟩
  have s1 : ((⟨#[40]⟩ : ByteArray) ++ op ++ n).size = 2 + n.size := by rw [ba_size, ba_size, hop]; rfl
  have s2 : (en ++ (⟨#[32]⟩ : ByteArray)).size = 2 := by rw [ba_size, hen]; rfl
  have l1 : ((⟨#[40]⟩ : ByteArray) ++ op ++ n).data.toList.length = 2 + n.size := by rw [len_data, s1]
  have l2 : (en ++ (⟨#[32]⟩ : ByteArray)).data.toList.length = 2 := by rw [len_data, s2]
  have HL0 : Aside0 (l.length + ((⟨#[40]⟩ : ByteArray) ++ op ++ n).size ≤ 140737488355328) := ⟨by omega⟩
  have HL1 : Aside0 ((l ++ ((⟨#[40]⟩ : ByteArray) ++ op ++ n).data.toList).length + (en ++ (⟨#[32]⟩ : ByteArray)).size ≤ 140737488355328) := ⟨by rw [List.length_append, l1]; omega⟩
  have HT := Aside0.mk hT
  have hu42 := Tryd.underlying42
  rcases hl with rfl | rfl
  · have HE : Aside0 (l ++ bindS op.data.toList en.data.toList n.data.toList (fxL ql args) = l ++ ((⟨#[40]⟩ : ByteArray) ++ op ++ n).data.toList ++ (en ++ (⟨#[32]⟩ : ByteArray)).data.toList ++ twoS (⟨#[]⟩ : ByteArray).data.toList (⟨#[]⟩ : ByteArray).data.toList (⟨#[41]⟩ : ByteArray).data.toList (fxL ql args)) := ⟨by
      unfold bindS
      rw [if_pos hfl, ba_app, ba_app, ba_app]
      simp only [List.append_assoc]⟩
    have HT1 : Aside0 (∀ W', FxSt w0 q b cw ct cb qv (l ++ ((⟨#[40]⟩ : ByteArray) ++ op ++ n).data.toList ++ (en ++ (⟨#[32]⟩ : ByteArray)).data.toList) W' → Calls Tryd.prog 65 #[.agg #[.int .i64 k, .string n, .int .i64 o, .slice A 1 c], .string ⟨#[]⟩, .string ⟨#[]⟩, .string ⟨#[41]⟩, .pointer (some ⟨b, 0, none⟩), .pointer (some ⟨cw, 0, none⟩)] W' (FxPost w0 q b cw ct cb qv (l ++ ((⟨#[40]⟩ : ByteArray) ++ op ++ n).data.toList ++ (en ++ (⟨#[32]⟩ : ByteArray)).data.toList ++ twoS (⟨#[]⟩ : ByteArray).data.toList (⟨#[]⟩ : ByteArray).data.toList (⟨#[41]⟩ : ByteArray).data.toList (fxL ql args)) W')) := ⟨fun W' h => by
      have := hT ⟨#[]⟩ ⟨#[]⟩ ⟨#[41]⟩ _ W' h (by decide) (by decide) (by decide) (by
        rw [List.length_append, List.length_append, l1, l2]
        have a1 : (⟨#[]⟩ : ByteArray).size = 0 := rfl
        have a2 : (⟨#[41]⟩ : ByteArray).size = 1 := rfl
        simp only at *
        omega)
      simp only [hm] at this
      exact this⟩
    have b1 : op.size ≤ 64 := by omega
    have b2 : en.size ≤ 64 := by omega
    clear hs hT hfl hop hen hN1 s1 s2 l1 l2 hm hN HT
    go_enter Tryd.func67, Tryd.ntmps67
    go_wp2_with fail
    go_at_call 66
    refine (wr_st ST0.out _ HL0.out).mono ?_
    rintro e w1 ⟨rfl, hs, ho⟩
    have BX1 := Aside0.mk (ST0.out.keep ho BX0.out (by decide) (by decide))
    have OK1 := Aside0.mk (OK0.out.trans ho)
    have ST1 := Aside0.mk hs
    have m3 : w1.cell? ⟨W.heap.size, 3, none⟩ = some (.slice A 1 c) := (blk_cell BX1.out 3).trans rfl
    clear hs ho ST0 OK0 BX0
    go_wp2_with fail
    go_at_call 66
    refine (wr_st ST1.out _ HL1.out).mono ?_
    rintro e w2 ⟨rfl, hs, ho⟩
    have BX2 := Aside0.mk (ST1.out.keep ho BX1.out (by decide) (by decide))
    have OK2 := Aside0.mk (OK1.out.trans ho)
    have ST2 := Aside0.mk hs
    have mt : w2.cell? ⟨ct, 0, none⟩ = some (.func (.func 65) #[] #[.pointer (some ⟨b, 0, none⟩), .pointer (some ⟨cw, 0, none⟩)]) := (blk_cell hs.ht 0).trans rfl
    have m0 : w2.cell? ⟨W.heap.size, 0, none⟩ = some (.int .i64 k) := (blk_cell BX2.out 0).trans rfl
    have m1 : w2.cell? ⟨W.heap.size, 1, none⟩ = some (.string n) := (blk_cell BX2.out 1).trans rfl
    have m2 : w2.cell? ⟨W.heap.size, 2, none⟩ = some (.int .i64 o) := (blk_cell BX2.out 2).trans rfl
    replace m3 : w2.cell? ⟨W.heap.size, 3, none⟩ = some (.slice A 1 c) := (blk_cell BX2.out 3).trans rfl
    clear hs ho ST1 OK1 BX1
    go_wp2_with fail
    go_at_call 65
    refine (HT1.out _ ST2.out).mono ?_
    rintro e w3 ⟨rfl, hs, ho⟩
    have OK3 := Aside0.mk (OK2.out.trans ho)
    have ST3 := Aside0.mk hs
    clear hs ho ST2 OK2 BX2
    go_wp2_with fail
    go_end0
    exact ⟨rfl, by rw [HE.out]; exact ST3.out, OK3.out⟩
  · have HE : Aside0 (l ++ bindS op.data.toList en.data.toList n.data.toList (fxL ql args) = l ++ ((⟨#[40]⟩ : ByteArray) ++ op ++ n).data.toList ++ twoS (⟨#[58]⟩ : ByteArray).data.toList (en ++ (⟨#[32]⟩ : ByteArray)).data.toList (⟨#[41]⟩ : ByteArray).data.toList (fxL ql args)) := ⟨by
      unfold bindS
      rw [if_neg (by rw [hfl]; decide), ba_app, ba_app, ba_app]
      simp only [List.append_assoc]⟩
    have HT1 : Aside0 (∀ W', FxSt w0 q b cw ct cb qv (l ++ ((⟨#[40]⟩ : ByteArray) ++ op ++ n).data.toList) W' → Calls Tryd.prog 65 #[.agg #[.int .i64 k, .string n, .int .i64 o, .slice A 2 c], .string ⟨#[58]⟩, .string (en ++ (⟨#[32]⟩ : ByteArray)), .string ⟨#[41]⟩, .pointer (some ⟨b, 0, none⟩), .pointer (some ⟨cw, 0, none⟩)] W' (FxPost w0 q b cw ct cb qv (l ++ ((⟨#[40]⟩ : ByteArray) ++ op ++ n).data.toList ++ twoS (⟨#[58]⟩ : ByteArray).data.toList (en ++ (⟨#[32]⟩ : ByteArray)).data.toList (⟨#[41]⟩ : ByteArray).data.toList (fxL ql args)) W')) := ⟨fun W' h => by
      have := hT ⟨#[58]⟩ (en ++ (⟨#[32]⟩ : ByteArray)) ⟨#[41]⟩ _ W' h (by decide) (by omega) (by decide) (by
        rw [List.length_append, l1, s2]
        have a1 : (⟨#[58]⟩ : ByteArray).size = 1 := rfl
        have a2 : (⟨#[41]⟩ : ByteArray).size = 1 := rfl
        simp only at *
        omega)
      simp only [hm] at this
      exact this⟩
    have b1 : op.size ≤ 64 := by omega
    have b2 : en.size ≤ 64 := by omega
    clear hs hT hfl hop hen hN1 s1 s2 l1 l2 hm hN HT
    go_enter Tryd.func67, Tryd.ntmps67
    go_wp2_with fail
    go_at_call 66
    refine (wr_st ST0.out _ HL0.out).mono ?_
    rintro e w2 ⟨rfl, hs, ho⟩
    have BX2 := Aside0.mk (ST0.out.keep ho BX0.out (by decide) (by decide))
    have OK2 := Aside0.mk (OK0.out.trans ho)
    have ST2 := Aside0.mk hs
    have mt : w2.cell? ⟨ct, 0, none⟩ = some (.func (.func 65) #[] #[.pointer (some ⟨b, 0, none⟩), .pointer (some ⟨cw, 0, none⟩)]) := (blk_cell hs.ht 0).trans rfl
    have m0 : w2.cell? ⟨W.heap.size, 0, none⟩ = some (.int .i64 k) := (blk_cell BX2.out 0).trans rfl
    have m1 : w2.cell? ⟨W.heap.size, 1, none⟩ = some (.string n) := (blk_cell BX2.out 1).trans rfl
    have m2 : w2.cell? ⟨W.heap.size, 2, none⟩ = some (.int .i64 o) := (blk_cell BX2.out 2).trans rfl
    have m3 : w2.cell? ⟨W.heap.size, 3, none⟩ = some (.slice A 2 c) := (blk_cell BX2.out 3).trans rfl
    clear hs ho ST0 OK0 BX0
    go_wp2_with fail
    go_at_call 65
    refine (HT1.out _ ST2.out).mono ?_
    rintro e w3 ⟨rfl, hs, ho⟩
    have OK3 := Aside0.mk (OK2.out.trans ho)
    have ST3 := Aside0.mk hs
    clear hs ho ST2 OK2 BX2
    go_wp2_with fail
    go_end0
    exact ⟨rfl, by rw [HE.out]; exact ST3.out, OK3.out⟩
end
end Go.Proofs.YtajefkjcfmfjkaaDoor
namespace Go.Proofs.YtajefkjcfmfjkaaDoor
section
set_option linter.unusedVariables false
set_option linter.unusedSimpArgs false
set_option linter.deprecated false
open Go.RowKit Go.Proofs.YtajefkjcfmfjkaaDoorW.PrintWords Go.Proofs.YtajefkjcfmfjkaaDoor.PRawForms
set_option linter.unusedVariables false
theorem Addr.plain_of_cell {w : World} {ad : Addr} {v : Value} (h : w.cell? ad = some v) : ad = ⟨ad.block, ad.off, none⟩ := by
  obtain ⟨b, o, s⟩ := ad
  unfold World.cell? at h
  split at h
  · cases s with
    | none => rfl
    | some s => simp at h
  · cases h
theorem Addr.add_plain2 (b o j : Nat) : (⟨b, o, none⟩ : Addr).add j = ⟨b, o + j, none⟩ := by
  unfold Addr.add
  split <;> simp_all
theorem containsS_inQ (q : List ByteArray) (x : ByteArray) : Lib.containsS q x = inQ q x := by
  rw [Bool.eq_iff_iff, Lib.containsS_iff]
  unfold inQ
  rw [List.any_eq_true]
  constructor
  · intro h; exact ⟨x, h, eqB_self x⟩
  · rintro ⟨y, hy, he⟩
    rw [eqB_iff] at he
    rw [← he]; exact hy
theorem con69_any (ql : List ByteArray) (A : Option Addr) (c : Nat) (x : ByteArray) (w : World) (hr : Kd.C Kd.string w A ql.length ql) :
    Calls Tryd.prog 69 #[.slice A ql.length c, .string x] w fun e w' => e = .returned (.bool (inQ ql x)) ∧ w' = w := by
  rcases Nat.eq_zero_or_pos ql.length with h0 | h0
  · have : ql = [] := List.eq_nil_of_length_eq_zero h0
    subst this
    exact Tryd.slices_Contains_string_empty A c x w
  · obtain ⟨h1, h2, h3⟩ := Kd.reads_of_C (d := ByteArray.empty) hr
    obtain ⟨ad, rfl, hc⟩ := h3 h0
    have hp := Addr.plain_of_cell (hc 0 h0)
    rw [show ad.add 0 = ad by simp [Addr.add]] at hp
    have := Tryd.slices_Contains_string ad.block ad.off ql.length c ql x w (Nat.le_refl _) h2 (fun j hj => by
      have := hc j hj
      rw [hp, Addr.add_plain2] at this
      exact this)
    rw [List.take_length, containsS_inQ, ← hp] at this
    exact this
set_option maxHeartbeats 4000000 in
set_option maxRecDepth 100000 in
theorem write1t (w0 : World) (q b cw ct cb : Nat) (qA : Option Addr) (qc : Nat) (ql : List ByteArray) (n : ByteArray) (o : Int) (A : Option Addr) (m c : Nat) (l : List UInt8) (W : World)
    (hs : FxSt w0 q b cw ct cb (.slice qA ql.length qc) l W) (hn : n.size ≤ 64) (hl : l.length ≤ 100000000) (hr : Kd.C Kd.string w0 qA ql.length ql) (hq : inQ ql n = true) :
    Calls Tryd.prog 68 #[.agg #[.int .i64 1, .string n, .int .i64 o, .slice A m c], .pointer (some ⟨q, 0, none⟩), .pointer (some ⟨b, 0, none⟩), .pointer (some ⟨ct, 0, none⟩), .pointer (some ⟨cb, 0, none⟩)] W (FxPost w0 q b cw ct cb (.slice qA ql.length qc) (l ++ ((⟨#[40]⟩ : ByteArray) ++ n ++ (⟨#[41]⟩ : ByteArray)).data.toList) W) := by
  have ST0 := Aside0.mk (hs.alloc (.cells #[.int .i64 1, .string n, .int .i64 o, .slice A m c] 42))
  have OK0 : Aside0 (Lib.OthersKept 5 (some b) W (W.alloc (.cells #[.int .i64 1, .string n, .int .i64 o, .slice A m c] 42))) := ⟨(Lib.OthersKept.refl _ _ W).alloc _⟩
  have hu42 := Tryd.underlying42
  have s1 : ((⟨#[40]⟩ : ByteArray) ++ n ++ (⟨#[41]⟩ : ByteArray)).size ≤ 66 := by rw [ba_size, ba_size]; have a1 : (⟨#[40]⟩ : ByteArray).size = 1 := rfl; have a2 : (⟨#[41]⟩ : ByteArray).size = 1 := rfl; omega
  have HL0 := Aside0.mk (show l.length + ((⟨#[40]⟩ : ByteArray) ++ n ++ (⟨#[41]⟩ : ByteArray)).size ≤ 140737488355328 by omega)
  have HC : Aside0 (∀ W', Below w0.heap.size w0 W' → Calls Tryd.prog 69 #[.slice qA ql.length qc, .string n] W' fun e w' => e = .returned (.bool true) ∧ w' = W') := ⟨fun W' h => by have := con69_any ql qA qc n W' (Kd.C_below hr h); rwa [hq] at this⟩
  have mq : W.cell? ⟨q, 0, none⟩ = some (.slice qA ql.length qc) := (blk_cell hs.hq 0).trans rfl
  have hlt := World.block_lt_of_cell? W _ mq
  clear hs hr hq s1 hl
  go_enter Tryd.func68, Tryd.ntmps68
  go_wp2_with (go_at_call 69; (with_reducible refine (HC.out _ ?b1).mono ?_); (case b1 => exact ST0.out.be); rintro e w' ⟨rfl, rfl⟩)
  go_at_call 66
  refine (wr_st ST0.out _ HL0.out).mono ?_
  rintro e w1 ⟨rfl, hs, ho⟩
  have OK1 := Aside0.mk (OK0.out.trans ho)
  have ST1 := Aside0.mk hs
  clear hs ho ST0 OK0
  go_wp2_with fail
  go_end0
  exact ⟨rfl, ST1.out, OK1.out⟩
set_option maxHeartbeats 4000000 in
set_option maxRecDepth 100000 in
theorem write1f (w0 : World) (q b cw ct cb : Nat) (qA : Option Addr) (qc : Nat) (ql : List ByteArray) (n : ByteArray) (o : Int) (A : Option Addr) (m c : Nat) (l : List UInt8) (W : World)
    (hs : FxSt w0 q b cw ct cb (.slice qA ql.length qc) l W) (hn : n.size ≤ 64) (hl : l.length ≤ 100000000) (hr : Kd.C Kd.string w0 qA ql.length ql) (hq : inQ ql n = false) :
    Calls Tryd.prog 68 #[.agg #[.int .i64 1, .string n, .int .i64 o, .slice A m c], .pointer (some ⟨q, 0, none⟩), .pointer (some ⟨b, 0, none⟩), .pointer (some ⟨ct, 0, none⟩), .pointer (some ⟨cb, 0, none⟩)] W (FxPost w0 q b cw ct cb (.slice qA ql.length qc) (l ++ n.data.toList) W) := by
  have ST0 := Aside0.mk (hs.alloc (.cells #[.int .i64 1, .string n, .int .i64 o, .slice A m c] 42))
  have OK0 : Aside0 (Lib.OthersKept 5 (some b) W (W.alloc (.cells #[.int .i64 1, .string n, .int .i64 o, .slice A m c] 42))) := ⟨(Lib.OthersKept.refl _ _ W).alloc _⟩
  have hu42 := Tryd.underlying42
  have s1 : n.size ≤ 66 := by omega
  have HL0 := Aside0.mk (show l.length + n.size ≤ 140737488355328 by omega)
  have HC : Aside0 (∀ W', Below w0.heap.size w0 W' → Calls Tryd.prog 69 #[.slice qA ql.length qc, .string n] W' fun e w' => e = .returned (.bool false) ∧ w' = W') := ⟨fun W' h => by have := con69_any ql qA qc n W' (Kd.C_below hr h); rwa [hq] at this⟩
  have mq : W.cell? ⟨q, 0, none⟩ = some (.slice qA ql.length qc) := (blk_cell hs.hq 0).trans rfl
  have hlt := World.block_lt_of_cell? W _ mq
  clear hs hr hq s1 hl
  go_enter Tryd.func68, Tryd.ntmps68
  go_wp2_with (go_at_call 69; (with_reducible refine (HC.out _ ?b1).mono ?_); (case b1 => exact ST0.out.be); rintro e w' ⟨rfl, rfl⟩)
  go_at_call 66
  refine (wr_st ST0.out _ HL0.out).mono ?_
  rintro e w1 ⟨rfl, hs, ho⟩
  have OK1 := Aside0.mk (OK0.out.trans ho)
  have ST1 := Aside0.mk hs
  clear hs ho ST0 OK0
  go_wp2_with fail
  go_end0
  exact ⟨rfl, ST1.out, OK1.out⟩
set_option maxHeartbeats 4000000 in
set_option maxRecDepth 100000 in
theorem write2 (w0 : World) (q b cw ct cb : Nat) (qA : Option Addr) (qc : Nat) (ql : List ByteArray) (n : ByteArray) (o : Int) (A : Option Addr) (m c : Nat) (l : List UInt8) (W : World)
    (hs : FxSt w0 q b cw ct cb (.slice qA ql.length qc) l W) (hn : n.size ≤ 64) (hl : l.length ≤ 100000000)  :
    Calls Tryd.prog 68 #[.agg #[.int .i64 2, .string n, .int .i64 o, .slice A m c], .pointer (some ⟨q, 0, none⟩), .pointer (some ⟨b, 0, none⟩), .pointer (some ⟨ct, 0, none⟩), .pointer (some ⟨cb, 0, none⟩)] W (FxPost w0 q b cw ct cb (.slice qA ql.length qc) (l ++ ((⟨#[64]⟩ : ByteArray) ++ n).data.toList) W) := by
  have ST0 := Aside0.mk (hs.alloc (.cells #[.int .i64 2, .string n, .int .i64 o, .slice A m c] 42))
  have OK0 : Aside0 (Lib.OthersKept 5 (some b) W (W.alloc (.cells #[.int .i64 2, .string n, .int .i64 o, .slice A m c] 42))) := ⟨(Lib.OthersKept.refl _ _ W).alloc _⟩
  have hu42 := Tryd.underlying42
  have s1 : ((⟨#[64]⟩ : ByteArray) ++ n).size ≤ 65 := by rw [ba_size]; have a1 : (⟨#[64]⟩ : ByteArray).size = 1 := rfl; omega
  have HL0 := Aside0.mk (show l.length + ((⟨#[64]⟩ : ByteArray) ++ n).size ≤ 140737488355328 by omega)
  clear hs s1 hl
  go_enter Tryd.func68, Tryd.ntmps68
  go_wp2_with fail
  go_at_call 66
  refine (wr_st ST0.out _ HL0.out).mono ?_
  rintro e w1 ⟨rfl, hs, ho⟩
  have OK1 := Aside0.mk (OK0.out.trans ho)
  have ST1 := Aside0.mk hs
  clear hs ho ST0 OK0
  go_wp2_with fail
  go_end0
  exact ⟨rfl, ST1.out, OK1.out⟩
set_option maxHeartbeats 4000000 in
set_option maxRecDepth 100000 in
theorem write3 (w0 : World) (q b cw ct cb : Nat) (qA : Option Addr) (qc : Nat) (ql : List ByteArray) (n : ByteArray) (o : Int) (A : Option Addr) (m c : Nat) (l : List UInt8) (W : World)
    (hs : FxSt w0 q b cw ct cb (.slice qA ql.length qc) l W) (hn : n.size ≤ 64) (hl : l.length ≤ 100000000)  :
    Calls Tryd.prog 68 #[.agg #[.int .i64 3, .string n, .int .i64 o, .slice A m c], .pointer (some ⟨q, 0, none⟩), .pointer (some ⟨b, 0, none⟩), .pointer (some ⟨ct, 0, none⟩), .pointer (some ⟨cb, 0, none⟩)] W (FxPost w0 q b cw ct cb (.slice qA ql.length qc) (l ++ (⟨#[95]⟩ : ByteArray).data.toList) W) := by
  have ST0 := Aside0.mk (hs.alloc (.cells #[.int .i64 3, .string n, .int .i64 o, .slice A m c] 42))
  have OK0 : Aside0 (Lib.OthersKept 5 (some b) W (W.alloc (.cells #[.int .i64 3, .string n, .int .i64 o, .slice A m c] 42))) := ⟨(Lib.OthersKept.refl _ _ W).alloc _⟩
  have hu42 := Tryd.underlying42
  have s1 : (⟨#[95]⟩ : ByteArray).size ≤ 1 := by decide
  have HL0 := Aside0.mk (show l.length + (⟨#[95]⟩ : ByteArray).size ≤ 140737488355328 by omega)
  clear hs s1 hl
  go_enter Tryd.func68, Tryd.ntmps68
  go_wp2_with fail
  go_at_call 66
  refine (wr_st ST0.out _ HL0.out).mono ?_
  rintro e w1 ⟨rfl, hs, ho⟩
  have OK1 := Aside0.mk (OK0.out.trans ho)
  have ST1 := Aside0.mk hs
  clear hs ho ST0 OK0
  go_wp2_with fail
  go_end0
  exact ⟨rfl, ST1.out, OK1.out⟩
set_option maxHeartbeats 4000000 in
set_option maxRecDepth 100000 in
theorem write4 (w0 : World) (q b cw ct cb : Nat) (qA : Option Addr) (qc : Nat) (ql : List ByteArray) (n : ByteArray) (o : Int) (A : Option Addr) (m c : Nat) (l : List UInt8) (W : World)
    (hs : FxSt w0 q b cw ct cb (.slice qA ql.length qc) l W) (hn : n.size ≤ 64) (hl : l.length ≤ 100000000)  :
    Calls Tryd.prog 68 #[.agg #[.int .i64 4, .string n, .int .i64 o, .slice A m c], .pointer (some ⟨q, 0, none⟩), .pointer (some ⟨b, 0, none⟩), .pointer (some ⟨ct, 0, none⟩), .pointer (some ⟨cb, 0, none⟩)] W (FxPost w0 q b cw ct cb (.slice qA ql.length qc) (l ++ (⟨#[116, 121, 112, 101]⟩ : ByteArray).data.toList) W) := by
  have ST0 := Aside0.mk (hs.alloc (.cells #[.int .i64 4, .string n, .int .i64 o, .slice A m c] 42))
  have OK0 : Aside0 (Lib.OthersKept 5 (some b) W (W.alloc (.cells #[.int .i64 4, .string n, .int .i64 o, .slice A m c] 42))) := ⟨(Lib.OthersKept.refl _ _ W).alloc _⟩
  have hu42 := Tryd.underlying42
  have s1 : (⟨#[116, 121, 112, 101]⟩ : ByteArray).size ≤ 4 := by decide
  have HL0 := Aside0.mk (show l.length + (⟨#[116, 121, 112, 101]⟩ : ByteArray).size ≤ 140737488355328 by omega)
  clear hs s1 hl
  go_enter Tryd.func68, Tryd.ntmps68
  go_wp2_with fail
  go_at_call 66
  refine (wr_st ST0.out _ HL0.out).mono ?_
  rintro e w1 ⟨rfl, hs, ho⟩
  have OK1 := Aside0.mk (OK0.out.trans ho)
  have ST1 := Aside0.mk hs
  clear hs ho ST0 OK0
  go_wp2_with fail
  go_end0
  exact ⟨rfl, ST1.out, OK1.out⟩
set_option maxHeartbeats 4000000 in
set_option maxRecDepth 100000 in
theorem write5 (w0 : World) (q b cw ct cb : Nat) (qA : Option Addr) (qc : Nat) (ql : List ByteArray) (n : ByteArray) (o : Int) (A : Option Addr) (m c : Nat) (l : List UInt8) (W : World)
    (hs : FxSt w0 q b cw ct cb (.slice qA ql.length qc) l W) (hn : n.size ≤ 64) (hl : l.length ≤ 100000000) (post : List UInt8) (hT : ∀ W', FxSt w0 q b cw ct cb (.slice qA ql.length qc) l W' → Calls Tryd.prog 65 #[.agg #[.int .i64 5, .string n, .int .i64 o, .slice A m c], .string (⟨#[40]⟩ : ByteArray), .string (⟨#[32]⟩ : ByteArray), .string (⟨#[41]⟩ : ByteArray), .pointer (some ⟨b, 0, none⟩), .pointer (some ⟨cw, 0, none⟩)] W' (FxPost w0 q b cw ct cb (.slice qA ql.length qc) (l ++ post) W')) :
    Calls Tryd.prog 68 #[.agg #[.int .i64 5, .string n, .int .i64 o, .slice A m c], .pointer (some ⟨q, 0, none⟩), .pointer (some ⟨b, 0, none⟩), .pointer (some ⟨ct, 0, none⟩), .pointer (some ⟨cb, 0, none⟩)] W (FxPost w0 q b cw ct cb (.slice qA ql.length qc) (l ++ post) W) := by
  have ST0 := Aside0.mk (hs.alloc (.cells #[.int .i64 5, .string n, .int .i64 o, .slice A m c] 42))
  have OK0 : Aside0 (Lib.OthersKept 5 (some b) W (W.alloc (.cells #[.int .i64 5, .string n, .int .i64 o, .slice A m c] 42))) := ⟨(Lib.OthersKept.refl _ _ W).alloc _⟩
  have hu42 := Tryd.underlying42
  have mt : W.cell? ⟨ct, 0, none⟩ = some (.func (.func 65) #[] #[.pointer (some ⟨b, 0, none⟩), .pointer (some ⟨cw, 0, none⟩)]) := (blk_cell hs.ht 0).trans rfl
  have hlt := World.block_lt_of_cell? W _ mt
  have HT := Aside0.mk hT
  clear hs hl hT
  go_enter Tryd.func68, Tryd.ntmps68
  go_wp2_with fail
  go_at_call 65
  refine (HT.out _ ST0.out).mono ?_
  rintro e w1 ⟨rfl, hs, ho⟩
  have OK1 := Aside0.mk (OK0.out.trans ho)
  have ST1 := Aside0.mk hs
  clear hs ho ST0 OK0
  go_wp2_with fail
  go_end0
  exact ⟨rfl, ST1.out, OK1.out⟩
set_option maxHeartbeats 4000000 in
set_option maxRecDepth 100000 in
theorem write6 (w0 : World) (q b cw ct cb : Nat) (qA : Option Addr) (qc : Nat) (ql : List ByteArray) (n : ByteArray) (o : Int) (A : Option Addr) (m c : Nat) (l : List UInt8) (W : World)
    (hs : FxSt w0 q b cw ct cb (.slice qA ql.length qc) l W) (hn : n.size ≤ 64) (hl : l.length ≤ 100000000) (post : List UInt8) (hT : ∀ W', FxSt w0 q b cw ct cb (.slice qA ql.length qc) l W' → Calls Tryd.prog 65 #[.agg #[.int .i64 6, .string n, .int .i64 o, .slice A m c], .string (⟨#[40]⟩ : ByteArray), .string (⟨#[32, 45, 62, 32]⟩ : ByteArray), .string (⟨#[41]⟩ : ByteArray), .pointer (some ⟨b, 0, none⟩), .pointer (some ⟨cw, 0, none⟩)] W' (FxPost w0 q b cw ct cb (.slice qA ql.length qc) (l ++ post) W')) :
    Calls Tryd.prog 68 #[.agg #[.int .i64 6, .string n, .int .i64 o, .slice A m c], .pointer (some ⟨q, 0, none⟩), .pointer (some ⟨b, 0, none⟩), .pointer (some ⟨ct, 0, none⟩), .pointer (some ⟨cb, 0, none⟩)] W (FxPost w0 q b cw ct cb (.slice qA ql.length qc) (l ++ post) W) := by
  have ST0 := Aside0.mk (hs.alloc (.cells #[.int .i64 6, .string n, .int .i64 o, .slice A m c] 42))
  have OK0 : Aside0 (Lib.OthersKept 5 (some b) W (W.alloc (.cells #[.int .i64 6, .string n, .int .i64 o, .slice A m c] 42))) := ⟨(Lib.OthersKept.refl _ _ W).alloc _⟩
  have hu42 := Tryd.underlying42
  have mt : W.cell? ⟨ct, 0, none⟩ = some (.func (.func 65) #[] #[.pointer (some ⟨b, 0, none⟩), .pointer (some ⟨cw, 0, none⟩)]) := (blk_cell hs.ht 0).trans rfl
  have hlt := World.block_lt_of_cell? W _ mt
  have HT := Aside0.mk hT
  clear hs hl hT
  go_enter Tryd.func68, Tryd.ntmps68
  go_wp2_with fail
  go_at_call 65
  refine (HT.out _ ST0.out).mono ?_
  rintro e w1 ⟨rfl, hs, ho⟩
  have OK1 := Aside0.mk (OK0.out.trans ho)
  have ST1 := Aside0.mk hs
  clear hs ho ST0 OK0
  go_wp2_with fail
  go_end0
  exact ⟨rfl, ST1.out, OK1.out⟩
set_option maxHeartbeats 4000000 in
set_option maxRecDepth 100000 in
theorem write9 (w0 : World) (q b cw ct cb : Nat) (qA : Option Addr) (qc : Nat) (ql : List ByteArray) (n : ByteArray) (o : Int) (A : Option Addr) (m c : Nat) (l : List UInt8) (W : World)
    (hs : FxSt w0 q b cw ct cb (.slice qA ql.length qc) l W) (hn : n.size ≤ 64) (hl : l.length ≤ 100000000) (post : List UInt8) (hT : ∀ W', FxSt w0 q b cw ct cb (.slice qA ql.length qc) l W' → Calls Tryd.prog 65 #[.agg #[.int .i64 9, .string n, .int .i64 o, .slice A m c], .string (⟨#[40]⟩ : ByteArray), .string (⟨#[32, 58, 32]⟩ : ByteArray), .string (⟨#[41]⟩ : ByteArray), .pointer (some ⟨b, 0, none⟩), .pointer (some ⟨cw, 0, none⟩)] W' (FxPost w0 q b cw ct cb (.slice qA ql.length qc) (l ++ post) W')) :
    Calls Tryd.prog 68 #[.agg #[.int .i64 9, .string n, .int .i64 o, .slice A m c], .pointer (some ⟨q, 0, none⟩), .pointer (some ⟨b, 0, none⟩), .pointer (some ⟨ct, 0, none⟩), .pointer (some ⟨cb, 0, none⟩)] W (FxPost w0 q b cw ct cb (.slice qA ql.length qc) (l ++ post) W) := by
  have ST0 := Aside0.mk (hs.alloc (.cells #[.int .i64 9, .string n, .int .i64 o, .slice A m c] 42))
  have OK0 : Aside0 (Lib.OthersKept 5 (some b) W (W.alloc (.cells #[.int .i64 9, .string n, .int .i64 o, .slice A m c] 42))) := ⟨(Lib.OthersKept.refl _ _ W).alloc _⟩
  have hu42 := Tryd.underlying42
  have mt : W.cell? ⟨ct, 0, none⟩ = some (.func (.func 65) #[] #[.pointer (some ⟨b, 0, none⟩), .pointer (some ⟨cw, 0, none⟩)]) := (blk_cell hs.ht 0).trans rfl
  have hlt := World.block_lt_of_cell? W _ mt
  have HT := Aside0.mk hT
  clear hs hl hT
  go_enter Tryd.func68, Tryd.ntmps68
  go_wp2_with fail
  go_at_call 65
  refine (HT.out _ ST0.out).mono ?_
  rintro e w1 ⟨rfl, hs, ho⟩
  have OK1 := Aside0.mk (OK0.out.trans ho)
  have ST1 := Aside0.mk hs
  clear hs ho ST0 OK0
  go_wp2_with fail
  go_end0
  exact ⟨rfl, ST1.out, OK1.out⟩
set_option maxHeartbeats 4000000 in
set_option maxRecDepth 100000 in
theorem write7 (w0 : World) (q b cw ct cb : Nat) (qA : Option Addr) (qc : Nat) (ql : List ByteArray) (n : ByteArray) (o : Int) (A : Option Addr) (m c : Nat) (l : List UInt8) (W : World)
    (hs : FxSt w0 q b cw ct cb (.slice qA ql.length qc) l W) (hn : n.size ≤ 64) (hl : l.length ≤ 100000000) (post : List UInt8) (hT : ∀ W', FxSt w0 q b cw ct cb (.slice qA ql.length qc) l W' → Calls Tryd.prog 67 #[.agg #[.int .i64 7, .string n, .int .i64 o, .slice A m c], .string (⟨#[123]⟩ : ByteArray), .string (⟨#[125]⟩ : ByteArray), .pointer (some ⟨b, 0, none⟩), .pointer (some ⟨ct, 0, none⟩)] W' (FxPost w0 q b cw ct cb (.slice qA ql.length qc) (l ++ post) W')) :
    Calls Tryd.prog 68 #[.agg #[.int .i64 7, .string n, .int .i64 o, .slice A m c], .pointer (some ⟨q, 0, none⟩), .pointer (some ⟨b, 0, none⟩), .pointer (some ⟨ct, 0, none⟩), .pointer (some ⟨cb, 0, none⟩)] W (FxPost w0 q b cw ct cb (.slice qA ql.length qc) (l ++ post) W) := by
  have ST0 := Aside0.mk (hs.alloc (.cells #[.int .i64 7, .string n, .int .i64 o, .slice A m c] 42))
  have OK0 : Aside0 (Lib.OthersKept 5 (some b) W (W.alloc (.cells #[.int .i64 7, .string n, .int .i64 o, .slice A m c] 42))) := ⟨(Lib.OthersKept.refl _ _ W).alloc _⟩
  have hu42 := Tryd.underlying42
  have mt : W.cell? ⟨cb, 0, none⟩ = some (.func (.func 67) #[] #[.pointer (some ⟨b, 0, none⟩), .pointer (some ⟨ct, 0, none⟩)]) := (blk_cell hs.hb 0).trans rfl
  have hlt := World.block_lt_of_cell? W _ mt
  have HT := Aside0.mk hT
  clear hs hl hT
  go_enter Tryd.func68, Tryd.ntmps68
  go_wp2_with fail
  go_at_call 67
  refine (HT.out _ ST0.out).mono ?_
  rintro e w1 ⟨rfl, hs, ho⟩
  have OK1 := Aside0.mk (OK0.out.trans ho)
  have ST1 := Aside0.mk hs
  clear hs ho ST0 OK0
  go_wp2_with fail
  go_end0
  exact ⟨rfl, ST1.out, OK1.out⟩
set_option maxHeartbeats 4000000 in
set_option maxRecDepth 100000 in
theorem write8 (w0 : World) (q b cw ct cb : Nat) (qA : Option Addr) (qc : Nat) (ql : List ByteArray) (n : ByteArray) (o : Int) (A : Option Addr) (m c : Nat) (l : List UInt8) (W : World)
    (hs : FxSt w0 q b cw ct cb (.slice qA ql.length qc) l W) (hn : n.size ≤ 64) (hl : l.length ≤ 100000000) (post : List UInt8) (hT : ∀ W', FxSt w0 q b cw ct cb (.slice qA ql.length qc) l W' → Calls Tryd.prog 67 #[.agg #[.int .i64 8, .string n, .int .i64 o, .slice A m c], .string (⟨#[91]⟩ : ByteArray), .string (⟨#[93]⟩ : ByteArray), .pointer (some ⟨b, 0, none⟩), .pointer (some ⟨ct, 0, none⟩)] W' (FxPost w0 q b cw ct cb (.slice qA ql.length qc) (l ++ post) W')) :
    Calls Tryd.prog 68 #[.agg #[.int .i64 8, .string n, .int .i64 o, .slice A m c], .pointer (some ⟨q, 0, none⟩), .pointer (some ⟨b, 0, none⟩), .pointer (some ⟨ct, 0, none⟩), .pointer (some ⟨cb, 0, none⟩)] W (FxPost w0 q b cw ct cb (.slice qA ql.length qc) (l ++ post) W) := by
  have ST0 := Aside0.mk (hs.alloc (.cells #[.int .i64 8, .string n, .int .i64 o, .slice A m c] 42))
  have OK0 : Aside0 (Lib.OthersKept 5 (some b) W (W.alloc (.cells #[.int .i64 8, .string n, .int .i64 o, .slice A m c] 42))) := ⟨(Lib.OthersKept.refl _ _ W).alloc _⟩
  have hu42 := Tryd.underlying42
  have mt : W.cell? ⟨cb, 0, none⟩ = some (.func (.func 67) #[] #[.pointer (some ⟨b, 0, none⟩), .pointer (some ⟨ct, 0, none⟩)]) := (blk_cell hs.hb 0).trans rfl
  have hlt := World.block_lt_of_cell? W _ mt
  have HT := Aside0.mk hT
  clear hs hl hT
  go_enter Tryd.func68, Tryd.ntmps68
  go_wp2_with fail
  go_at_call 67
  refine (HT.out _ ST0.out).mono ?_
  rintro e w1 ⟨rfl, hs, ho⟩
  have OK1 := Aside0.mk (OK0.out.trans ho)
  have ST1 := Aside0.mk hs
  clear hs ho ST0 OK0
  go_wp2_with fail
  go_end0
  exact ⟨rfl, ST1.out, OK1.out⟩
theorem form_len (k : Int) (n : ByteArray) (m : Nat) (h : nodeS k n m = true) : (k = 1 ∨ k = 2 ∨ k = 3 ∨ k = 4) ∨ ((k = 5 ∨ k = 6 ∨ k = 9) ∧ m = 2) ∨ ((k = 7 ∨ k = 8) ∧ (m = 1 ∨ m = 2)) := by
  unfold nodeS at h
  split at h
  · left; omega
  split at h
  · left; omega
  split at h
  · simp at h; right; left; exact ⟨by omega, h.2⟩
  split at h
  · simp at h; right; right; exact ⟨by omega, h.2⟩
  · cases h
theorem write_any (w0 : World) (q b cw ct cb : Nat) (qA : Option Addr) (qc : Nat) (ql : List ByteArray) (hq : Kd.C Kd.string w0 qA ql.length ql) (N : Nat) (hN : N ≤ 100000000) (i : Nat) :
    ∀ t : S42, szT t ≤ i → fmT t = true → nmT t = true → WrC w0 q b cw ct cb (.slice qA ql.length qc) ql N t := by
  induction i with
  | zero => intro t h; have := szT_pos t; omega
  | succ i ih =>
    intro t hsz hf hn A c l W hs hr hc hb
    rw [szT_eq] at hsz hb
    rw [fmT_eq, Bool.and_eq_true] at hf
    rw [nmT_eq, Bool.and_eq_true, decide_eq_true_eq] at hn
    obtain ⟨hf1, hf2⟩ := hf
    obtain ⟨hn1, hn2⟩ := hn
    have hx : ∀ x ∈ t.f3, WrC w0 q b cw ct cb (.slice qA ql.length qc) ql N x := by
      intro x hx
      rw [fmL_all] at hf2
      rw [nmL_all] at hn2
      exact ih x (Nat.le_trans (szL_mem hx) (by omega)) (List.all_eq_true.1 hf2 x hx) (List.all_eq_true.1 hn2 x hx)
    have hlen := form_len _ _ _ hf1
    have hTw : t.f3.length = 1 ∨ t.f3.length = 2 → TwC w0 q b cw ct cb (.slice qA ql.length qc) ql N t A c :=
      fun h => two_any w0 q b cw ct cb _ ql N hN t A c hr h hn2 hx
    have hBd : ∀ (h : t.f3.length = 1 ∨ t.f3.length = 2) (op en : ByteArray) (W' : World), op.size = 1 → en.size = 1 → FxSt w0 q b cw ct cb (.slice qA ql.length qc) l W' →
        Calls Tryd.prog 67 #[.agg #[.int .i64 t.f0, .string t.f1, .int .i64 t.f2, .slice A t.f3.length c], .string op, .string en, .pointer (some ⟨b, 0, none⟩), .pointer (some ⟨ct, 0, none⟩)] W'
          (FxPost w0 q b cw ct cb (.slice qA ql.length qc) (l ++ bindS op.data.toList en.data.toList t.f1.data.toList (fxL ql t.f3)) W') :=
      fun h op en W' h1 h2 hs' => bind_any w0 q b cw ct cb _ ql N hN t A c h hn1 (hTw h) op en l W' hs' h1 h2 (by omega)
    have hTp : ∀ (h : t.f3.length = 1 ∨ t.f3.length = 2) (op mid en : ByteArray) (W' : World), op.size ≤ 1 → mid.size ≤ 4 → en.size ≤ 1 → FxSt w0 q b cw ct cb (.slice qA ql.length qc) l W' →
        Calls Tryd.prog 65 #[.agg #[.int .i64 t.f0, .string t.f1, .int .i64 t.f2, .slice A t.f3.length c], .string op, .string mid, .string en, .pointer (some ⟨b, 0, none⟩), .pointer (some ⟨cw, 0, none⟩)] W'
          (FxPost w0 q b cw ct cb (.slice qA ql.length qc) (l ++ twoS op.data.toList mid.data.toList en.data.toList (fxL ql t.f3)) W') :=
      fun h op mid en W' h1 h2 h3 hs' => hTw h op mid en l W' hs' (by omega) (by omega) (by omega) (by omega)
    rw [fxT_eq]
    clear ih hTw hx hf1 hf2 hn2 hr hc
    obtain ⟨k, n, o, args⟩ := t
    simp only at hlen hBd hTp hn1 hb ⊢
    have hl : l.length ≤ 100000000 := by omega
    rcases hlen with (rfl | rfl | rfl | rfl) | ⟨rfl | rfl | rfl, hm⟩ | ⟨rfl | rfl, hm⟩
    · cases hi : inQ ql n with
      | true =>
        have e : nodeX ql 1 n (fxL ql args) = ((⟨#[40]⟩ : ByteArray) ++ n ++ (⟨#[41]⟩ : ByteArray)).data.toList := by
          rw [ba_app, ba_app]; unfold nodeX; rw [if_pos rfl, hi, if_pos rfl]
        rw [e]
        exact write1t w0 q b cw ct cb qA qc ql n o A _ c l W hs hn1 hl hq hi
      | false =>
        have e : nodeX ql 1 n (fxL ql args) = n.data.toList := by
          unfold nodeX; rw [if_pos rfl, hi, if_neg (by simp)]
        rw [e]
        exact write1f w0 q b cw ct cb qA qc ql n o A _ c l W hs hn1 hl hq hi
    · have e : nodeX ql 2 n (fxL ql args) = ((⟨#[64]⟩ : ByteArray) ++ n).data.toList := by rw [ba_app]; rfl
      rw [e]
      exact write2 w0 q b cw ct cb qA qc ql n o A _ c l W hs hn1 hl
    · exact write3 w0 q b cw ct cb qA qc ql n o A _ c l W hs hn1 hl
    · exact write4 w0 q b cw ct cb qA qc ql n o A _ c l W hs hn1 hl
    · exact write5 w0 q b cw ct cb qA qc ql n o A _ c l W hs hn1 hl _ (fun W' h => hTp (.inr hm) _ _ _ W' (by decide) (by decide) (by decide) h)
    · exact write6 w0 q b cw ct cb qA qc ql n o A _ c l W hs hn1 hl _ (fun W' h => hTp (.inr hm) _ _ _ W' (by decide) (by decide) (by decide) h)
    · exact write9 w0 q b cw ct cb qA qc ql n o A _ c l W hs hn1 hl _ (fun W' h => hTp (.inr hm) _ _ _ W' (by decide) (by decide) (by decide) h)
    · exact write7 w0 q b cw ct cb qA qc ql n o A _ c l W hs hn1 hl _ (fun W' h => hBd hm _ _ W' (by decide) (by decide) h)
    · exact write8 w0 q b cw ct cb qA qc ql n o A _ c l W hs hn1 hl _ (fun W' h => hBd hm _ _ W' (by decide) (by decide) h)
end
end Go.Proofs.YtajefkjcfmfjkaaDoor
namespace Go.Proofs.YtajefkjcfmfjkaaDoor
section
set_option linter.unusedVariables false
set_option linter.unusedSimpArgs false
set_option linter.deprecated false
open Go.RowKit Go.Proofs.YtajefkjcfmfjkaaDoorW.PrintWords Go.Proofs.YtajefkjcfmfjkaaDoor.PRawForms
def addN (out : List ByteArray) (n : ByteArray) : List ByteArray := if inQ out n then out else out ++ [n]
abbrev NmF := List ByteArray → List ByteArray → List ByteArray
/-- a binder: the first part outside, the last inside -/
def bindF (inner : List ByteArray → List ByteArray) (fs : List NmF) (bd out : List ByteArray) : List ByteArray :=
  (fs.getD (fs.length - 1) (fun _ o => o)) (inner bd) (if fs.length = 2 then (fs.getD 0 (fun _ o => o)) bd out else out)
def nodeF (k : Int) (n : ByteArray) (fs : List NmF) (bd out : List ByteArray) : List ByteArray :=
  if k = 1 then (if inQ bd n then out else addN out n)
  else if k = 2 then addN out n
  else if k = 7 ∨ k = 8 then bindF (fun b => b ++ [n]) fs bd out
  else fs.foldl (fun o f => f bd o) out
mutual
def frT : S42 → NmF
  | ⟨k, n, _, l⟩ => nodeF k n (frL l)
def frL : List S42 → List NmF
  | [] => []
  | x :: xs => frT x :: frL xs
end
/-- the reference's: '_' is not bound -/
def nodeG (k : Int) (n : ByteArray) (fs : List NmF) (bd out : List ByteArray) : List ByteArray :=
  if k = 1 ∨ k = 2 then (if !inQ out n && (k == 2 || !inQ bd n) then out ++ [n] else out)
  else if k = 7 ∨ k = 8 then bindF (fun b => if eqB n ⟨#[95]⟩ then b else b ++ [n]) fs bd out
  else fs.foldl (fun o f => f bd o) out
mutual
def grT : S42 → NmF
  | ⟨k, n, _, l⟩ => nodeG k n (grL l)
def grL : List S42 → List NmF
  | [] => []
  | x :: xs => grT x :: grL xs
end
theorem frT_eq (t : S42) : frT t = nodeF t.f0 t.f1 (frL t.f3) := by cases t; rw [frT]
theorem grT_eq (t : S42) : grT t = nodeG t.f0 t.f1 (grL t.f3) := by cases t; rw [grT]
theorem frL_map (l : List S42) : frL l = l.map frT := by
  induction l with
  | nil => rfl
  | cons y ys ih => rw [frL, ih]; rfl
theorem grL_map (l : List S42) : grL l = l.map grT := by
  induction l with
  | nil => rfl
  | cons y ys ih => rw [grL, ih]; rfl
theorem addN_len (out : List ByteArray) (n : ByteArray) : (addN out n).length ≤ out.length + 1 := by
  unfold addN; split <;> simp
theorem frT_len (i : Nat) : ∀ t : S42, szT t ≤ i → ∀ bd out : List ByteArray, (frT t bd out).length ≤ out.length + szT t := by
  induction i with
  | zero => intro t h; have := szT_pos t; omega
  | succ i ih =>
    intro t h bd out
    rw [szT_eq] at h ⊢
    rw [frT_eq]
    have ha := addN_len out t.f1
    have hd : ∀ l : List S42, szL l ≤ i → ∀ out : List ByteArray, ((frL l).foldl (fun o f => f bd o) out).length ≤ out.length + szL l := by
      intro l
      induction l with
      | nil => intro _ out; simp [frL, szL]
      | cons x xs ih2 =>
        intro hx out
        rw [szL] at hx ⊢
        rw [frL, List.foldl_cons]
        have h1 := ih2 (by omega) (frT x bd out)
        have h2 := ih x (by omega) bd out
        omega
    have hg : ∀ (l : List S42) (j : Nat), szL l ≤ i → ∀ bd out, (((frL l).getD j (fun _ o => o)) bd out).length ≤ out.length + szL l := by
      intro l
      induction l with
      | nil => intro j _ bd out; simp [frL, szL]
      | cons x xs ih2 =>
        intro j hx bd out
        rw [szL] at hx ⊢
        rw [frL]
        cases j with
        | zero => have := ih x (by omega) bd out; simp; omega
        | succ j => have := ih2 j (by omega) bd out; simp only [List.getD_cons_succ]; omega
    unfold nodeF
    split
    · split <;> omega
    split
    · omega
    split
    · unfold bindF
      dsimp only
      rcases Nat.lt_or_ge t.f3.length 2 with h2 | h2
      · rw [if_neg (by rw [frL_map, List.length_map]; omega)]
        have := hg t.f3 ((frL t.f3).length - 1) (by omega) (bd ++ [t.f1]) out
        omega
      · match t.f3, h2, h, hg with
        | [x, y], _, h, hg =>
          rw [szL, szL, szL] at h ⊢
          have h1 := ih x (by omega) bd out
          have h3 := ih y (by omega) (bd ++ [t.f1]) (frT x bd out)
          simp [frL]
          omega
        | x :: y :: z :: r, _, h, hg =>
          rw [if_neg (by rw [frL_map, List.length_map]; simp)]
          have := hg (x :: y :: z :: r) ((frL (x :: y :: z :: r)).length - 1) (by omega) (bd ++ [t.f1]) out
          omega
    · have := hd t.f3 (by omega) out; omega
theorem name_not_us (n : ByteArray) (h : nameS n = true) : eqB n ⟨#[95]⟩ = false := by
  apply eqB_ne
  rintro rfl
  have : nameS ⟨#[95]⟩ = false := by decide +kernel
  rw [this] at h
  cases h
/-- the lists of bound names that differ in '_' alone -/
def SameB (bd bg : List ByteArray) : Prop := ∀ n, eqB n ⟨#[95]⟩ = false → inQ bd n = inQ bg n
theorem inQ_app (a : List ByteArray) (m n : ByteArray) : inQ (a ++ [m]) n = (inQ a n || eqB m n) := by simp [inQ]
theorem nodeS_name {k : Int} {n : ByteArray} {m : Nat} (h : nodeS k n m = true) (hk : k = 1 ∨ k = 2) : nameS n = true := by
  unfold nodeS at h; rw [if_pos hk] at h; simp at h; exact h.1
theorem gr_fr (i : Nat) : ∀ t : S42, szT t ≤ i → fmT t = true → ∀ bd bg out : List ByteArray, SameB bd bg → grT t bg out = frT t bd out := by
  induction i with
  | zero => intro t h; have := szT_pos t; omega
  | succ i ih =>
    intro t h hf bd bg out hs
    rw [szT_eq] at h
    rw [fmT_eq, Bool.and_eq_true] at hf
    obtain ⟨hf1, hf2⟩ := hf
    rw [fmL_all] at hf2
    have hx : ∀ x ∈ t.f3, ∀ bd bg out, SameB bd bg → grT x bg out = frT x bd out := fun x hx bd bg out h' => ih x (Nat.le_trans (szL_mem hx) (by omega)) (List.all_eq_true.1 hf2 x hx) bd bg out h'
    rw [grT_eq, frT_eq]
    unfold nodeG nodeF
    by_cases h1 : t.f0 = 1
    · have hn := name_not_us _ (nodeS_name hf1 (.inl h1))
      rw [if_pos (.inl h1), if_pos h1, ← hs _ hn, h1]
      unfold addN
      cases inQ bd t.f1 <;> cases inQ out t.f1 <;> rfl
    by_cases h2 : t.f0 = 2
    · rw [if_pos (.inr h2), if_neg h1, if_pos h2, h2]
      unfold addN
      cases inQ out t.f1 <;> simp
    rw [if_neg (by omega), if_neg h1, if_neg h2]
    by_cases h7 : t.f0 = 7 ∨ t.f0 = 8
    · rw [if_pos h7, if_pos h7]
      unfold bindF
      rw [grL_map, frL_map]
      have hb : SameB (bd ++ [t.f1]) (if eqB t.f1 ⟨#[95]⟩ = true then bg else bg ++ [t.f1]) := by
        intro m hm
        rw [inQ_app]
        cases he : eqB t.f1 ⟨#[95]⟩ with
        | true =>
          rw [if_pos rfl, hs m hm]
          have e1 := (eqB_iff _ _).1 he
          have : eqB t.f1 m = false := by
            rw [e1]
            cases hc : eqB ⟨#[95]⟩ m with
            | false => rfl
            | true => rw [(eqB_iff _ _).1 hc, eqB_self] at hm; cases hm
          rw [this, Bool.or_false]
        | false => rw [if_neg (by simp), inQ_app, hs m hm]
      match t.f3, hx with
      | [], _ => rfl
      | [y], hx => simp only [List.map_cons, List.map_nil, List.length_cons, List.length_nil]; exact hx y (by simp) _ _ _ hb
      | [x, y], hx =>
        simp only [List.map_cons, List.map_nil, List.length_cons, List.length_nil]
        rw [if_pos trivial, if_pos trivial]
        show grT y _ (grT x bg out) = frT y _ (frT x bd out)
        rw [hx x (by simp) bd bg out hs]
        exact hx y (by simp) _ _ _ hb
      | x :: y :: z :: r, hx =>
        rw [if_neg (by simp), if_neg (by simp), List.length_map, List.length_map]
        have hm : (x :: y :: z :: r).length - 1 < (x :: y :: z :: r).length := by simp
        rw [List.getD_eq_getElem?_getD, List.getD_eq_getElem?_getD, List.getElem?_map, List.getElem?_map, List.getElem?_eq_getElem hm]
        exact hx _ (List.getElem_mem hm) _ _ _ hb
    · rw [if_neg h7, if_neg h7, grL_map, frL_map]
      have : ∀ (l : List S42), (∀ x ∈ l, ∀ bd bg out, SameB bd bg → grT x bg out = frT x bd out) → ∀ out, (l.map grT).foldl (fun o f => f bg o) out = (l.map frT).foldl (fun o f => f bd o) out := by
        intro l
        induction l with
        | nil => intro _ _; rfl
        | cons x xs ih2 =>
          intro hl out
          rw [List.map_cons, List.map_cons, List.foldl_cons, List.foldl_cons, hl x (by simp) bd bg out hs]
          exact ih2 (fun y hy => hl y (by simp [hy])) _
      exact this t.f3 hx out
/-- Free's answer -/
def freeT (t : S42) : List ByteArray := if wfS t = 0 then frT t [] [] else []
end
end Go.Proofs.YtajefkjcfmfjkaaDoor
namespace Go.Proofs.YtajefkjcfmfjkaaDoor
section
set_option linter.unusedVariables false
set_option linter.unusedSimpArgs false
set_option linter.deprecated false
open Go.RowKit Go.Proofs.YtajefkjcfmfjkaaDoorW.PrintWords Go.Proofs.YtajefkjcfmfjkaaDoor.PRawForms
set_option linter.unusedVariables false
/-- the map says of each name whether it is in the list -/
def SeenOk (out : List ByteArray) (D : DataW Unit) : Prop := Maps.IsMap D ∧ ∀ s : ByteArray, D.atKey (.string s.data.toList) (.lit (.bool false)) = .lit (.bool (inQ out s))
theorem data_inj {a b : ByteArray} (h : a.data.toList = b.data.toList) : a = b := by cases a; cases b; simp at h; rw [h]
theorem SeenOk.nil : SeenOk [] (.map []) := ⟨Maps.isMap_empty, fun _ => rfl⟩
theorem SeenOk.put {out : List ByteArray} {D : DataW Unit} (h : SeenOk out D) (n : ByteArray) : SeenOk (out ++ [n]) (D.put (.string n.data.toList) (.lit (.bool true))) := by
  refine ⟨h.1.put _ _, fun s => ?_⟩
  rw [inQ_app]
  by_cases he : n = s
  · subst he
    rw [Maps.atKey_put_same h.1 (by first | exact trivial | simp [WideAt.IsKeyLit] | decide), eqB_self, Bool.or_true]
  · rw [Maps.atKey_put_other (fun e => he (data_inj (by injection e with e; exact e.symm))), h.2 s, eqB_ne he, Bool.or_false]
set_option maxRecDepth 100000 in
theorem plainBool_inv {v : Value} {b : Bool} {ps : List MemPlace} (h : plainElem (H := Unit) Tryd.prog 4 v = some (.lit (.bool b), ps)) : v = .bool b := by
  unfold plainElem at h
  rw [Tryd.underlying4] at h
  cases v <;> simp at h
  rw [h.1]
theorem zero4 (w : World) : (zeroValue 4).run Tryd.prog w = .ok (.bool false) w := by kernel_rfl
theorem own_sl3 {w : World} {base n : Nat} {e : TypeId} {size : Nat} {v : Value} {xs : List Value} (h : w.ownsRow base e size v n xs) : ∃ A N c, v = .slice A N c := by
  obtain ⟨A, c, e⟩ := own_slice h
  exact ⟨A, n, c, e⟩
theorem infoS9 : (Tryd.prog.info? 9).map (fun i => (i.zero, i.size, i.bytes)) = some (some (.string ⟨#[]⟩), 1, 16) := by kernel_rfl
structure FrSt (w0 : World) (bo bb bs ba bw bm : Nat) (bd out : List ByteArray) (W : World) : Prop where
  be : Below w0.heap.size w0 W
  bx : w0.heap.size ≤ bo ∧ w0.heap.size ≤ bb ∧ w0.heap.size ≤ bm ∧ bo ≠ bb
  om : ∃ D : DataW Unit, W.ownsMap Tryd.prog 9 (plainElem Tryd.prog 4) bm out.length D ∧ SeenOk out D
  rows : ∃ vo vb, W.heap[bo]? = some (.cells #[vo] 38 (0, 0)) ∧ W.heap[bb]? = some (.cells #[vb] 38 (0, 0)) ∧ W.ownsRow w0.heap.size 9 1 vo out.length (pw_strs out) ∧ W.ownsRow w0.heap.size 9 1 vb bd.length (pw_strs bd) ∧ (∀ k, vo.ownBlock = some k → vb.ownBlock ≠ some k)
  hs : W.heap[bs]? = some (.cells #[.map (some bm)] 94 (0, 0))
  ha : W.heap[ba]? = some (.cells #[.func (.func 72) #[] #[.pointer (some ⟨bs, 0, none⟩), .pointer (some ⟨bo, 0, none⟩)]] 95 (0, 0))
  hw : W.heap[bw]? = some (.cells #[.func (.func 73) #[] #[.pointer (some ⟨bb, 0, none⟩), .pointer (some ⟨ba, 0, none⟩), .pointer (some ⟨bw, 0, none⟩)]] 53 (0, 0))
/-- what is kept: blocks of cells that are no names' rows and no variables that hold one -/
def FrKept (W W' : World) : Prop := W.heap.size ≤ W'.heap.size ∧ ∀ (k : Nat) (cs : Array Value) (T : TypeId), W.heap[k]? = some (Obj.cells cs T (0, 0)) → T ≠ 9 → T ≠ 38 → W'.heap[k]? = some (Obj.cells cs T (0, 0))
section
variable {w0 W W' W2 : World} {bo bb bs ba bw bm : Nat} {bd out : List ByteArray}
theorem FrKept.refl (W : World) : FrKept W W := ⟨Nat.le_refl _, fun _ _ _ h _ _ => h⟩
theorem FrKept.trans (h : FrKept W W') (k : FrKept W' W2) : FrKept W W2 := ⟨Nat.le_trans h.1 k.1, fun i cs T hi h9 h38 => k.2 i cs T (h.2 i cs T hi h9 h38) h9 h38⟩
theorem FrKept.of_below (h : Below W.heap.size W W') : FrKept W W' := ⟨h.size, fun i cs T hi _ _ => (h.block i (blk_lt hi)).trans hi⟩
theorem FrKept.alloc (h : FrKept W W') (o : Obj) : FrKept W (W'.alloc o) := h.trans (.of_below (below_alloc (Below.refl _ _) o))
theorem FrKept.drew (h : FrKept W W') : FrKept W W'.drew := ⟨h.1, h.2⟩
theorem FrKept.cell (h : FrKept W W') {k T j : Nat} {cs : Array Value} (hk : W.heap[k]? = some (.cells cs T (0, 0))) (h9 : T ≠ 9) (h38 : T ≠ 38) : W'.cell? ⟨k, j, none⟩ = cs[j]? := blk_cell (h.2 k cs T hk h9 h38) j
theorem FrSt.below (h : FrSt w0 bo bb bs ba bw bm bd out W) (hb : Below W.heap.size W W') : FrSt w0 bo bb bs ba bw bm bd out W' := by
  obtain ⟨D, hm, hD⟩ := h.om
  obtain ⟨vo, vb, h1, h2, h3, h4, h5⟩ := h.rows
  exact ⟨below_step h.be hb, h.bx, ⟨D, hm.kept (grown_of_below hb none) (by simp), hD⟩, ⟨vo, vb, (hb.block _ (blk_lt h1)).trans h1, (hb.block _ (blk_lt h2)).trans h2, pw_own_below h3 hb, pw_own_below h4 hb, h5⟩,
    (hb.block _ (blk_lt h.hs)).trans h.hs, (hb.block _ (blk_lt h.ha)).trans h.ha, (hb.block _ (blk_lt h.hw)).trans h.hw⟩
theorem FrSt.alloc (h : FrSt w0 bo bb bs ba bw bm bd out W) (o : Obj) : FrSt w0 bo bb bs ba bw bm bd out (W.alloc o) := h.below (below_alloc (Below.refl _ _) o)
theorem FrSt.drew (h : FrSt w0 bo bb bs ba bw bm bd out W) : FrSt w0 bo bb bs ba bw bm bd out W.drew := h.below (below_drew (Below.refl _ _))
end
def FrPost (w0 : World) (bo bb bs ba bw bm : Nat) (bd out : List ByteArray) (W : World) (e : Ending) (w' : World) : Prop :=
  e = .returned (.tuple #[]) ∧ FrSt w0 bo bb bs ba bw bm bd out w' ∧ FrKept W w'
section
variable {P : Program} {ops : Array Oper} {rest : List Oper} {o : Oper} {a : Act} {Q : Exit → Act → World → Prop}
set_option maxRecDepth 100000 in
/-- 'm[k]', the map the names' -/
theorem lookup_seen (w : World) (hg : o.guard = none) (m x : Operand) (hop : o.op = Op.lookup 94 m x false) (bm n : Nat) (D : DataW Unit) (out : List ByteArray) (s : ByteArray)
    (hm : a.eval m = .map (some bm)) (hx : a.eval x = .string s) (hown : w.ownsMap Tryd.prog 9 (plainElem Tryd.prog 4) bm n D) (hD : SeenOk out D) (hs : s.size ≤ maxLen)
    (hK : wpList Tryd.prog ops Q rest (a.put o.dst (.bool (inQ out s))) w) : wpList Tryd.prog ops Q (o :: rest) a w := by
  refine wpList_plain hg fun K' hK' => ?_
  obtain ⟨v, ps, hrun, hR⟩ := hown.lookup (t := 94) (e := 4) (Maps.string_keyed Tryd.underlying9) Tryd.underlying94 (zero4 w) (plainElem_bool Tryd.underlying4 false) (WideMaps.keyOf_string_mk Tryd.underlying9 hs)
  rw [hD.2 s] at hR
  have hv := plainBool_inv hR
  subst hv
  unfold Oper.wp
  simp [execOp, hop, hm, hx, hrun, Result.andThen]
  exact hK' _ _ hK
end
section
variable {w0 W w1 w2 : World} {bo bb bs ba bw bm : Nat} {bd out : List ByteArray}
/-- a block of cells is not the map's -/
theorem cells_ne_map {n : Nat} {D : DataW Unit} (hm : W.ownsMap Tryd.prog 9 (plainElem Tryd.prog 4) bm n D) {k : Nat} {cs : Array Value} {T : TypeId} {fr : Nat × Nat} (h : W.heap[k]? = some (Obj.cells cs T fr)) : k ≠ bm := by
  rintro rfl
  obtain ⟨es, clock, hb, _⟩ := hm
  rw [hb] at h
  cases h
theorem row_ne {base n : Nat} {v : Value} {xs : List Value} (h : W.ownsRow base 9 1 v n xs) {k : Nat} {cs : Array Value} {T : TypeId} (hk : W.heap[k]? = some (Obj.cells cs T (0, 0))) (h9 : T ≠ 9) : some k ≠ v.ownBlock := by
  intro e
  obtain ⟨c, hc⟩ := own_typed h k e.symm
  rw [hc] at hk
  injection hk with hk
  injection hk with _ hk
  exact h9 hk.symm
theorem row_ne_map {base n m : Nat} {v : Value} {xs : List Value} {D : DataW Unit} (h : W.ownsRow base 9 1 v n xs) (hm : W.ownsMap Tryd.prog 9 (plainElem Tryd.prog 4) bm m D) : some bm ≠ v.ownBlock := by
  intro e
  obtain ⟨c, hc⟩ := own_typed h bm e.symm
  exact cells_ne_map hm hc rfl
theorem FrSt.added (h : FrSt w0 bo bb bs ba bw bm bd out W) {vo vb : Value} (h1 : W.heap[bo]? = some (.cells #[vo] 38 (0, 0))) (h2 : W.heap[bb]? = some (.cells #[vb] 38 (0, 0))) (h3 : W.ownsRow w0.heap.size 9 1 vo out.length (pw_strs out)) (h4 : W.ownsRow w0.heap.size 9 1 vb bd.length (pw_strs bd)) (h5 : ∀ k, vo.ownBlock = some k → vb.ownBlock ≠ some k)
    {D' : DataW Unit} {n : ByteArray} (hm1 : w1.ownsMap Tryd.prog 9 (plainElem Tryd.prog 4) bm (out.length + 1) D') (hD : SeenOk (out ++ [n]) D') (hg1 : W.grownBy w1 (some bm)) {v2 : Value}
    (r2 : w2.ownsRow w0.heap.size 9 1 v2 (out ++ [n]).length (pw_strs (out ++ [n]))) (hb2 : Below w0.heap.size w0 w2) (hg2 : w1.grownBy w2 vo.ownBlock) (hat : v2.ownBlock = vo.ownBlock ∨ ∃ b, v2.ownBlock = some b ∧ w1.heap.size ≤ b) :
    FrSt w0 bo bb bs ba bw bm bd (out ++ [n]) (w2.setCell ⟨bo, 0, none⟩ v2) ∧ FrKept W (w2.setCell ⟨bo, 0, none⟩ v2) := by
  obtain ⟨D, hm, _⟩ := h.om
  have hsz1 : W.heap.size ≤ w1.heap.size := hg1.size
  have k2 : ∀ {k : Nat} {cs : Array Value} {T : TypeId}, W.heap[k]? = some (Obj.cells cs T (0, 0)) → T ≠ 9 → w2.heap[k]? = some (Obj.cells cs T (0, 0)) := by
    intro k cs T hk h9
    have e1 := hg1.block k (blk_lt hk) (fun e => by injection e with e; exact cells_ne_map hm hk e)
    rw [hg2.block k (Nat.lt_of_lt_of_le (blk_lt hk) hsz1) (row_ne h3 hk h9), e1]
    exact hk
  have k3 : ∀ {k : Nat} {cs : Array Value} {T : TypeId}, W.heap[k]? = some (Obj.cells cs T (0, 0)) → T ≠ 9 → k ≠ bo → (w2.setCell ⟨bo, 0, none⟩ v2).heap[k]? = some (Obj.cells cs T (0, 0)) := by
    intro k cs T hk h9 hne
    exact (Below.heap_setCell w2 ⟨bo, 0, none⟩ v2 k hne).trans (k2 hk h9)
  have hT : ∀ {k : Nat} {cs : Array Value} {T : TypeId}, W.heap[k]? = some (Obj.cells cs T (0, 0)) → T ≠ 38 → k ≠ bo := by
    intro k cs T hk ht e
    subst e
    rw [h1] at hk
    injection hk with hk
    injection hk with _ hk
    exact ht hk.symm
  have hbo2 := k2 h1 (by decide)
  have hmne : some bm ≠ vo.ownBlock := row_ne_map h3 hm
  have hbm : bm ≠ bo := fun e => cells_ne_map hm h1 e.symm
  have rb2 : w2.ownsRow w0.heap.size 9 1 vb bd.length (pw_strs bd) := by
    refine (h4.kept hg1 (.inr (fun e => row_ne_map h4 hm e.symm))).kept hg2 ?_
    rcases hvb : vb.ownBlock with _ | k
    · exact .inl rfl
    · exact .inr (fun e => h5 k e.symm hvb)
  refine ⟨⟨hb2.setCell (p := ⟨bo, 0, none⟩) h.bx.1 _, h.bx, ⟨D', ?_, hD⟩, ⟨v2, vb, blk_set hbo2 0 v2, k3 h2 (by decide) (fun e => h.bx.2.2.2 e.symm), ?_, ?_, ?_⟩, k3 h.hs (by decide) (hT h.hs (by decide)), k3 h.ha (by decide) (hT h.ha (by decide)), k3 h.hw (by decide) (hT h.hw (by decide))⟩, ?_, ?_⟩
  · have := hm1.kept hg2 hmne
    rw [List.length_append]
    exact this.kept (row := some bo) ⟨rfl, rfl, rfl, by simp [World.setCell], fun i hi hne => Below.heap_setCell w2 ⟨bo, 0, none⟩ v2 i (fun e => hne (by rw [e]))⟩ (by simpa using hbm)
  · exact own_setCell r2 (fun e => row_ne r2 hbo2 (by decide) e) _
  · exact own_setCell rb2 (fun e => row_ne rb2 hbo2 (by decide) e) _
  · intro k hk hvb
    rcases hat with hat | ⟨b, hat, hle⟩
    · exact h5 k (hat ▸ hk) hvb
    · rw [hat] at hk
      injection hk with hk
      have := own_lt h4 k hvb
      omega
  · have : w2.heap.size = (w2.setCell ⟨bo, 0, none⟩ v2).heap.size := by simp [World.setCell]
    rw [← this]
    exact Nat.le_trans hsz1 hg2.size
  · intro k cs T hk h9 h38
    exact k3 hk h9 (hT hk h38)
end
set_option maxHeartbeats 4000000 in
set_option maxRecDepth 100000 in
theorem add_any (w0 : World) (bo bb bs ba bw bm : Nat) (bd out : List ByteArray) (n : ByteArray) (W : World) (hs : FrSt w0 bo bb bs ba bw bm bd out W) (hn : n.size ≤ 64) (hl : out.length ≤ 100000000) :
    Calls Tryd.prog 72 #[.string n, .pointer (some ⟨bs, 0, none⟩), .pointer (some ⟨bo, 0, none⟩)] W (FrPost w0 bo bb bs ba bw bm bd (addN out n) W) := by
  have HS := Aside0.mk hs
  obtain ⟨D, hm, hD⟩ := hs.om
  have HM := Aside0.mk hm
  have HD := Aside0.mk hD
  have HN : Aside0 (n.size ≤ maxLen) := ⟨by unfold maxLen; omega⟩
  have HLM : Aside0 (out.length < maxLen) := ⟨by unfold maxLen; omega⟩
  have mb : W.cell? ⟨bs, 0, none⟩ = some (.map (some bm)) := (blk_cell hs.hs 0).trans rfl
  cases hq : inQ out n with
  | true =>
    have hA : addN out n = out := by unfold addN; rw [if_pos hq]
    rw [hA]
    have HQ := Aside0.mk hq
    clear hs hm hD hA hq hl hn
    go_enter Tryd.func72, Tryd.ntmps72
    go_wp2_with (at_lookup; refine lookup_seen _ rfl _ _ rfl bm out.length D out n rfl rfl HM.out HD.out HN.out ?_; rw [HQ.out])
    go_end0
    exact ⟨rfl, HS.out, FrKept.refl _⟩
  | false =>
    have hA : addN out n = out ++ [n] := by unfold addN; rw [if_neg (by simp [hq])]
    rw [hA]
    have HQ := Aside0.mk hq
    obtain ⟨vo, vb, h1, h2, h3, h4, h5⟩ := hs.rows
    obtain ⟨A, N, c, rfl⟩ := own_sl3 h3
    have HR := Aside0.mk (And.intro h1 (And.intro h2 (And.intro h3 (And.intro h4 h5))))
    have HLA : Aside0 (((pw_strs out).length + 1) * 16 ≤ 140737488355328) := ⟨by simp only [pw_strs, List.length_map]; omega⟩
    clear hs hm hD hA hq hn h1 h2 h3 h4 h5 hl
    go_enter Tryd.func72, Tryd.ntmps72
    go_wp2_with (first | (at_lookup; refine lookup_seen _ rfl _ _ rfl bm out.length D out n rfl rfl HM.out HD.out HN.out ?_; rw [HQ.out]) | (at_mapUpdate; refine wpList_mapUpdate_own _ rfl _ _ _ 94 rfl 9 4 (Maps.string_keyed Tryd.underlying9) Tryd.underlying94 (plainElem Tryd.prog 4) bm out.length D rfl HM.out HLM.out _ _ (.string n.data.toList) rfl rfl (WideMaps.keyOf_string_mk Tryd.underlying9 HN.out) (.lit (.bool true)) [] (plainElem_bool Tryd.underlying4 true) ?_; intro w1 hm1 hg1; have HM1 := Aside0.mk hm1; have HG1 := Aside0.mk hg1; have hbo1 := (hg1.block bo (blk_lt HR.out.1) (fun e => by injection e with e; exact cells_ne_map HM.out HR.out.1 e)).trans HR.out.1; have mo := (blk_cell hbo1 0).trans rfl; have HBO := Aside0.mk hbo1; have HR1 := Aside0.mk (HR.out.2.2.1.kept hg1 (.inr (fun e => row_ne_map HR.out.2.2.1 HM.out e.symm))); have HB1 := Aside0.mk (HS.out.be.grown hg1 (below_size HS.out.be) (fun k hk => by injection hk with hk; rw [← hk]; exact HS.out.bx.2.2.1)); clear hm1 hg1 hbo1) | (at_builtin; refine print_append (w0 := w0) w0.heap.size rfl (.tmp 10) (.tmp 12) 38 9 (.string ⟨#[]⟩) 16 rfl Tryd.underlying38 infoS9 rfl (by decide) (.slice A N c) (pw_strs out) (.string n) rfl rfl rfl (by simpa [pw_strs] using HR1.out) HB1.out (below_size HB1.out) HLA.out ?_; intro v2 w2 r2 hb2 hg2 hat; obtain ⟨A2, N2, c2, rfl⟩ := own_sl3 r2; have R2 := Aside0.mk r2; have HG2 := Aside0.mk hg2; have HAT := Aside0.mk hat; have HB2 := Aside0.mk hb2; have hbo2 := (hg2.block bo (blk_lt HBO.out) (row_ne HR1.out HBO.out (by decide))).trans HBO.out; have mo2 := (blk_cell hbo2 0).trans rfl; have fo2 := blk_frozen hbo2 0; clear r2 hg2 hat hb2 hbo2 mo))
    go_end0
    obtain ⟨f1, f2⟩ := FrSt.added (n := n) HS.out HR.out.1 HR.out.2.1 HR.out.2.2.1 HR.out.2.2.2.1 HR.out.2.2.2.2 HM1.out (HD.out.put n) HG1.out (by simpa [pw_strs] using R2.out) HB2.out HG2.out HAT.out
    exact ⟨rfl, f1, f2⟩
end
end Go.Proofs.YtajefkjcfmfjkaaDoor
namespace Go.Proofs.YtajefkjcfmfjkaaDoor
section
set_option linter.unusedVariables false
set_option linter.unusedSimpArgs false
set_option linter.deprecated false
open Go.RowKit Go.Proofs.YtajefkjcfmfjkaaDoorW.PrintWords Go.Proofs.YtajefkjcfmfjkaaDoor.PRawForms
set_option linter.unusedVariables false
section
variable {w0 W w2 : World} {bo bb bs ba bw bm : Nat} {bd out : List ByteArray}
theorem map_set {bb n : Nat} {D : DataW Unit} {v2 : Value} (hm : W.ownsMap Tryd.prog 9 (plainElem Tryd.prog 4) bm n D) (hne : bm ≠ bb) : (W.setCell ⟨bb, 0, none⟩ v2).ownsMap Tryd.prog 9 (plainElem Tryd.prog 4) bm n D :=
  hm.kept (row := some bb) ⟨rfl, rfl, rfl, by simp [World.setCell], fun i hi hne => Below.heap_setCell W ⟨bb, 0, none⟩ v2 i (fun e => hne (by rw [e]))⟩ (by simpa using hne)
theorem FrSt.pushed (h : FrSt w0 bo bb bs ba bw bm bd out W) {vo vb : Value} (h1 : W.heap[bo]? = some (.cells #[vo] 38 (0, 0))) (h2 : W.heap[bb]? = some (.cells #[vb] 38 (0, 0))) (h3 : W.ownsRow w0.heap.size 9 1 vo out.length (pw_strs out)) (h4 : W.ownsRow w0.heap.size 9 1 vb bd.length (pw_strs bd)) (h5 : ∀ k, vo.ownBlock = some k → vb.ownBlock ≠ some k)
    {n : ByteArray} {v2 : Value} (r2 : w2.ownsRow w0.heap.size 9 1 v2 (bd ++ [n]).length (pw_strs (bd ++ [n]))) (hb2 : Below w0.heap.size w0 w2) (hg2 : W.grownBy w2 vb.ownBlock) (hat : v2.ownBlock = vb.ownBlock ∨ ∃ b, v2.ownBlock = some b ∧ W.heap.size ≤ b) :
    FrSt w0 bo bb bs ba bw bm (bd ++ [n]) out (w2.setCell ⟨bb, 0, none⟩ v2) ∧ FrKept W (w2.setCell ⟨bb, 0, none⟩ v2) := by
  obtain ⟨D, hm, hD⟩ := h.om
  have k2 : ∀ {k : Nat} {cs : Array Value} {T : TypeId}, W.heap[k]? = some (Obj.cells cs T (0, 0)) → T ≠ 9 → w2.heap[k]? = some (Obj.cells cs T (0, 0)) := by
    intro k cs T hk h9
    rw [hg2.block k (blk_lt hk) (row_ne h4 hk h9)]
    exact hk
  have k3 : ∀ {k : Nat} {cs : Array Value} {T : TypeId}, W.heap[k]? = some (Obj.cells cs T (0, 0)) → T ≠ 9 → k ≠ bb → (w2.setCell ⟨bb, 0, none⟩ v2).heap[k]? = some (Obj.cells cs T (0, 0)) := by
    intro k cs T hk h9 hne
    exact (Below.heap_setCell w2 ⟨bb, 0, none⟩ v2 k hne).trans (k2 hk h9)
  have hT : ∀ {k : Nat} {cs : Array Value} {T : TypeId}, W.heap[k]? = some (Obj.cells cs T (0, 0)) → T ≠ 38 → k ≠ bb := by
    intro k cs T hk ht e
    subst e
    rw [h2] at hk
    injection hk with hk
    injection hk with _ hk
    exact ht hk.symm
  have hbb2 := k2 h2 (by decide)
  have hmne : some bm ≠ vb.ownBlock := row_ne_map h4 hm
  have hbm : bm ≠ bb := fun e => cells_ne_map hm h2 e.symm
  have ro2 : w2.ownsRow w0.heap.size 9 1 vo out.length (pw_strs out) := by
    refine h3.kept hg2 ?_
    rcases hvo : vo.ownBlock with _ | k
    · exact .inl rfl
    · exact .inr (fun e => h5 k hvo e.symm)
  refine ⟨⟨hb2.setCell (p := ⟨bb, 0, none⟩) h.bx.2.1 _, h.bx, ⟨D, map_set (hm.kept hg2 hmne) hbm, hD⟩, ⟨vo, v2, k3 h1 (by decide) h.bx.2.2.2, blk_set hbb2 0 v2, ?_, ?_, ?_⟩, k3 h.hs (by decide) (hT h.hs (by decide)), k3 h.ha (by decide) (hT h.ha (by decide)), k3 h.hw (by decide) (hT h.hw (by decide))⟩, ?_, ?_⟩
  · exact own_setCell ro2 (fun e => row_ne ro2 hbb2 (by decide) e) _
  · exact own_setCell r2 (fun e => row_ne r2 hbb2 (by decide) e) _
  · intro k hk hv2
    rcases hat with hat | ⟨b, hat, hle⟩
    · exact h5 k hk (hat ▸ hv2)
    · rw [hat] at hv2
      injection hv2 with hv2
      have := own_lt h3 k hk
      omega
  · have : w2.heap.size = (w2.setCell ⟨bb, 0, none⟩ v2).heap.size := by simp [World.setCell]
    rw [← this]
    exact hg2.size
  · intro k cs T hk h9 h38
    exact k3 hk h9 (hT hk h38)
theorem FrSt.popped {n : ByteArray} (h : FrSt w0 bo bb bs ba bw bm (bd ++ [n]) out W) {vo : Value} {A : Option Addr} {c : Nat} (h1 : W.heap[bo]? = some (.cells #[vo] 38 (0, 0))) (h2 : W.heap[bb]? = some (.cells #[.slice A (bd.length + 1) c] 38 (0, 0))) (h3 : W.ownsRow w0.heap.size 9 1 vo out.length (pw_strs out)) (h4 : W.ownsRow w0.heap.size 9 1 (.slice A (bd.length + 1) c) (bd.length + 1) (pw_strs (bd ++ [n]))) (h5 : ∀ k, vo.ownBlock = some k → (Value.slice A (bd.length + 1) c).ownBlock ≠ some k) :
    FrSt w0 bo bb bs ba bw bm bd out (W.setCell ⟨bb, 0, none⟩ (.slice A bd.length c)) ∧ FrKept W (W.setCell ⟨bb, 0, none⟩ (.slice A bd.length c)) := by
  obtain ⟨D, hm, hD⟩ := h.om
  have k3 : ∀ {k : Nat} {cs : Array Value} {T : TypeId}, W.heap[k]? = some (Obj.cells cs T (0, 0)) → k ≠ bb → (W.setCell ⟨bb, 0, none⟩ (.slice A bd.length c)).heap[k]? = some (Obj.cells cs T (0, 0)) := by
    intro k cs T hk hne
    exact (Below.heap_setCell W ⟨bb, 0, none⟩ _ k hne).trans hk
  have hT : ∀ {k : Nat} {cs : Array Value} {T : TypeId}, W.heap[k]? = some (Obj.cells cs T (0, 0)) → T ≠ 38 → k ≠ bb := by
    intro k cs T hk ht e
    subst e
    rw [h2] at hk
    injection hk with hk
    injection hk with _ hk
    exact ht hk.symm
  have hbm : bm ≠ bb := fun e => cells_ne_map hm h2 e.symm
  have r4 : W.ownsRow w0.heap.size 9 1 (.slice A bd.length c) bd.length (pw_strs bd) := by
    have := own_take (m := bd.length) h4 (by omega)
    rwa [show (pw_strs (bd ++ [n])).take (bd.length * 1) = pw_strs bd by simp [pw_strs]] at this
  have hown : (Value.slice A bd.length c).ownBlock = (Value.slice A (bd.length + 1) c).ownBlock := by cases A <;> rfl
  refine ⟨⟨h.be.setCell (p := ⟨bb, 0, none⟩) h.bx.2.1 _, h.bx, ⟨D, map_set hm hbm, hD⟩, ⟨vo, _, k3 h1 h.bx.2.2.2, blk_set h2 0 _, ?_, ?_, ?_⟩, k3 h.hs (hT h.hs (by decide)), k3 h.ha (hT h.ha (by decide)), k3 h.hw (hT h.hw (by decide))⟩, ?_, ?_⟩
  · exact own_setCell h3 (fun e => row_ne h3 h2 (by decide) e) _
  · exact own_setCell r4 (fun e => row_ne r4 h2 (by decide) e) _
  · intro k hk hv2
    exact h5 k hk (hown ▸ hv2)
  · exact Nat.le_of_eq (by simp [World.setCell])
  · intro k cs T hk h9 h38
    exact k3 hk (hT hk h38)
end
end
end Go.Proofs.YtajefkjcfmfjkaaDoor
namespace Go.Proofs.YtajefkjcfmfjkaaDoor
section
set_option linter.unusedVariables false
set_option linter.unusedSimpArgs false
set_option linter.deprecated false
open Go.RowKit Go.Proofs.YtajefkjcfmfjkaaDoorW.PrintWords Go.Proofs.YtajefkjcfmfjkaaDoor.PRawForms
set_option linter.unusedVariables false
set_option linter.unusedSimpArgs false
/-- what 'walk' does at a tree -/
def FrC (w0 : World) (bo bb bs ba bw bm : Nat) (N : Nat) (x : S42) : Prop :=
  ∀ (bd out : List ByteArray) (A : Option Addr) (c : Nat) (W : World), FrSt w0 bo bb bs ba bw bm bd out W → Kd.C k42 w0 A x.f3.length x.f3 → x.f3.length ≤ c → bd.length + szT x ≤ N → out.length + szT x ≤ N →
    Calls Tryd.prog 73 #[.agg #[.int .i64 x.f0, .string x.f1, .int .i64 x.f2, .slice A x.f3.length c], .pointer (some ⟨bb, 0, none⟩), .pointer (some ⟨ba, 0, none⟩), .pointer (some ⟨bw, 0, none⟩)] W (FrPost w0 bo bb bs ba bw bm bd (frT x bd out) W)
set_option maxHeartbeats 4000000 in
set_option maxRecDepth 100000 in
theorem fwalk1t (w0 : World) (bo bb bs ba bw bm : Nat) (bd out : List ByteArray) (n : ByteArray) (o : Int) (A : Option Addr) (m : Nat) (c : Nat) (W : World)
    (hs : FrSt w0 bo bb bs ba bw bm bd out W) (hn : n.size ≤ 64) (ho : out.length ≤ 100000000) (hbl : bd.length ≤ 100000000) (hq : inQ bd n = true) :
    Calls Tryd.prog 73 #[.agg #[.int .i64 1, .string n, .int .i64 o, .slice A m c], .pointer (some ⟨bb, 0, none⟩), .pointer (some ⟨ba, 0, none⟩), .pointer (some ⟨bw, 0, none⟩)] W (FrPost w0 bo bb bs ba bw bm bd out W) := by
  have ST0 := Aside0.mk (hs.alloc (.cells #[.int .i64 1, .string n, .int .i64 o, .slice A m c] 42))
  have KP0 := Aside0.mk ((FrKept.refl W).alloc (.cells #[.int .i64 1, .string n, .int .i64 o, .slice A m c] 42))
  have hu42 := Tryd.underlying42
  obtain ⟨vo, vb, h1, h2, h3, h4, h5⟩ := hs.rows
  obtain ⟨Ab, cb, rfl, hrd⟩ := own_reads_of (enc := Value.string) (d := ByteArray.empty) h4
  have hC : Kd.C Kd.string W Ab bd.length bd := Kd.C_of_reads hrd
  have HC : Aside0 (∀ W', Below W.heap.size W W' → Calls Tryd.prog 69 #[.slice Ab bd.length cb, .string n] W' fun e w' => e = .returned (.bool true) ∧ w' = W') := ⟨fun W' h => by have := con69_any bd Ab cb n W' (Kd.C_below hC h); rwa [hq] at this⟩
  have mbb : W.cell? ⟨bb, 0, none⟩ = some (.slice Ab bd.length cb) := (blk_cell h2 0).trans rfl
  have hlb := World.block_lt_of_cell? W _ mbb
  have mba : W.cell? ⟨ba, 0, none⟩ = some (.func (.func 72) #[] #[.pointer (some ⟨bs, 0, none⟩), .pointer (some ⟨bo, 0, none⟩)]) := (blk_cell hs.ha 0).trans rfl
  have hla := World.block_lt_of_cell? W _ mba
  clear hs h1 h2 h3 h4 h5 hrd hC hq ho hbl
  go_enter Tryd.func73, Tryd.ntmps73
  go_wp2_with (go_at_call 69; (with_reducible refine (HC.out _ ?b1).mono ?_); (case b1 => exact (by repeat (first | (with_reducible first | exact Below.refl _ _ | apply below_alloc | apply pw_below_drewN | apply below_drew1 | refine below_set ?_ (Nat.le_refl _)) | assumption))); rintro e w' ⟨rfl, rfl⟩)
  go_end0
  exact ⟨rfl, ST0.out, KP0.out⟩
set_option maxHeartbeats 4000000 in
set_option maxRecDepth 100000 in
theorem fwalk1f (w0 : World) (bo bb bs ba bw bm : Nat) (bd out : List ByteArray) (n : ByteArray) (o : Int) (A : Option Addr) (m : Nat) (c : Nat) (W : World)
    (hs : FrSt w0 bo bb bs ba bw bm bd out W) (hn : n.size ≤ 64) (ho : out.length ≤ 100000000) (hbl : bd.length ≤ 100000000) (hq : inQ bd n = false) :
    Calls Tryd.prog 73 #[.agg #[.int .i64 1, .string n, .int .i64 o, .slice A m c], .pointer (some ⟨bb, 0, none⟩), .pointer (some ⟨ba, 0, none⟩), .pointer (some ⟨bw, 0, none⟩)] W (FrPost w0 bo bb bs ba bw bm bd (addN out n) W) := by
  have ST0 := Aside0.mk (hs.alloc (.cells #[.int .i64 1, .string n, .int .i64 o, .slice A m c] 42))
  have KP0 := Aside0.mk ((FrKept.refl W).alloc (.cells #[.int .i64 1, .string n, .int .i64 o, .slice A m c] 42))
  have hu42 := Tryd.underlying42
  obtain ⟨vo, vb, h1, h2, h3, h4, h5⟩ := hs.rows
  obtain ⟨Ab, cb, rfl, hrd⟩ := own_reads_of (enc := Value.string) (d := ByteArray.empty) h4
  have hC : Kd.C Kd.string W Ab bd.length bd := Kd.C_of_reads hrd
  have HC : Aside0 (∀ W', Below W.heap.size W W' → Calls Tryd.prog 69 #[.slice Ab bd.length cb, .string n] W' fun e w' => e = .returned (.bool false) ∧ w' = W') := ⟨fun W' h => by have := con69_any bd Ab cb n W' (Kd.C_below hC h); rwa [hq] at this⟩
  have mbb : W.cell? ⟨bb, 0, none⟩ = some (.slice Ab bd.length cb) := (blk_cell h2 0).trans rfl
  have hlb := World.block_lt_of_cell? W _ mbb
  have mba : W.cell? ⟨ba, 0, none⟩ = some (.func (.func 72) #[] #[.pointer (some ⟨bs, 0, none⟩), .pointer (some ⟨bo, 0, none⟩)]) := (blk_cell hs.ha 0).trans rfl
  have hla := World.block_lt_of_cell? W _ mba
  have HA : Aside0 (∀ W', FrSt w0 bo bb bs ba bw bm bd out W' → Calls Tryd.prog 72 #[.string n, .pointer (some ⟨bs, 0, none⟩), .pointer (some ⟨bo, 0, none⟩)] W' (FrPost w0 bo bb bs ba bw bm bd (addN out n) W')) := ⟨fun W' h => add_any w0 bo bb bs ba bw bm bd out n W' h hn ho⟩
  clear hs h1 h2 h3 h4 h5 hrd hC hq ho hbl
  go_enter Tryd.func73, Tryd.ntmps73
  go_wp2_with (first | (go_at_call 69; (with_reducible refine (HC.out _ ?b1).mono ?_); (case b1 => exact (by repeat (first | (with_reducible first | exact Below.refl _ _ | apply below_alloc | apply pw_below_drewN | apply below_drew1 | refine below_set ?_ (Nat.le_refl _)) | assumption))); rintro e w' ⟨rfl, rfl⟩) | (go_at_call 72; (with_reducible refine (HA.out _ ST0.out).mono ?_); rintro e w1 ⟨rfl, f1, f2⟩; have ST1 := Aside0.mk f1; have KP1 := Aside0.mk (KP0.out.trans f2); clear f1 f2))
  go_end0
  exact ⟨rfl, ST1.out, KP1.out⟩
set_option maxHeartbeats 4000000 in
set_option maxRecDepth 100000 in
theorem fwalk2 (w0 : World) (bo bb bs ba bw bm : Nat) (bd out : List ByteArray) (n : ByteArray) (o : Int) (A : Option Addr) (m : Nat) (c : Nat) (W : World)
    (hs : FrSt w0 bo bb bs ba bw bm bd out W) (hn : n.size ≤ 64) (ho : out.length ≤ 100000000) (hbl : bd.length ≤ 100000000)  :
    Calls Tryd.prog 73 #[.agg #[.int .i64 2, .string n, .int .i64 o, .slice A m c], .pointer (some ⟨bb, 0, none⟩), .pointer (some ⟨ba, 0, none⟩), .pointer (some ⟨bw, 0, none⟩)] W (FrPost w0 bo bb bs ba bw bm bd (addN out n) W) := by
  have ST0 := Aside0.mk (hs.alloc (.cells #[.int .i64 2, .string n, .int .i64 o, .slice A m c] 42))
  have KP0 := Aside0.mk ((FrKept.refl W).alloc (.cells #[.int .i64 2, .string n, .int .i64 o, .slice A m c] 42))
  have hu42 := Tryd.underlying42
  have mba : W.cell? ⟨ba, 0, none⟩ = some (.func (.func 72) #[] #[.pointer (some ⟨bs, 0, none⟩), .pointer (some ⟨bo, 0, none⟩)]) := (blk_cell hs.ha 0).trans rfl
  have hla := World.block_lt_of_cell? W _ mba
  have HA : Aside0 (∀ W', FrSt w0 bo bb bs ba bw bm bd out W' → Calls Tryd.prog 72 #[.string n, .pointer (some ⟨bs, 0, none⟩), .pointer (some ⟨bo, 0, none⟩)] W' (FrPost w0 bo bb bs ba bw bm bd (addN out n) W')) := ⟨fun W' h => add_any w0 bo bb bs ba bw bm bd out n W' h hn ho⟩
  clear hs ho hbl
  go_enter Tryd.func73, Tryd.ntmps73
  go_wp2_with (go_at_call 72; (with_reducible refine (HA.out _ ST0.out).mono ?_); rintro e w1 ⟨rfl, f1, f2⟩; have ST1 := Aside0.mk f1; have KP1 := Aside0.mk (KP0.out.trans f2); clear f1 f2)
  go_end0
  exact ⟨rfl, ST1.out, KP1.out⟩
/-- the names behind j parts -/
def outJ (bd out : List ByteArray) (l : List S42) (j : Nat) : List ByteArray := ((frL l).take j).foldl (fun o f => f bd o) out
theorem outJ_succ (bd out : List ByteArray) (l : List S42) (j : Nat) (h : j < l.length) : outJ bd out l (j + 1) = frT (rd_T42 l (j : Int)) bd (outJ bd out l j) := by
  unfold outJ
  have h' : j < (frL l).length := by rw [frL_map, List.length_map]; exact h
  rw [List.take_succ_eq_append_getElem h', List.foldl_append]
  simp only [List.foldl_cons, List.foldl_nil]
  have : (frL l)[j] = frT (rd_T42 l (j : Int)) := by
    rw [rdT_get h]; simp [frL_map]
  rw [this]
theorem outJ_zero (bd out : List ByteArray) (l : List S42) : outJ bd out l 0 = out := by simp [outJ]
theorem outJ_all (bd out : List ByteArray) (l : List S42) : outJ bd out l l.length = (frL l).foldl (fun o f => f bd o) out := by
  unfold outJ
  rw [List.take_of_length_le (by rw [frL_map, List.length_map]; omega)]
set_option maxHeartbeats 4000000 in
set_option maxRecDepth 100000 in
theorem fwalk3 (w0 : World) (bo bb bs ba bw bm : Nat) (N : Nat) (bd out : List ByteArray) (n : ByteArray) (o : Int) (l : List S42) (A : Option Addr) (c : Nat) (W : World)
    (hs : FrSt w0 bo bb bs ba bw bm bd out W) (hr : Kd.C k42 w0 A l.length l) (hll : l.length ≤ 1000000) (hx : ∀ j, j < l.length → FrC w0 bo bb bs ba bw bm N (rd_T42 l (j : Int)))
    (hb1 : ∀ j, j < l.length → bd.length + szT (rd_T42 l (j : Int)) ≤ N) (hb2 : ∀ j, j < l.length → (outJ bd out l j).length + szT (rd_T42 l (j : Int)) ≤ N) (post : List ByteArray) (hp : outJ bd out l l.length = post) :
    Calls Tryd.prog 73 #[.agg #[.int .i64 3, .string n, .int .i64 o, .slice A l.length c], .pointer (some ⟨bb, 0, none⟩), .pointer (some ⟨ba, 0, none⟩), .pointer (some ⟨bw, 0, none⟩)] W (FrPost w0 bo bb bs ba bw bm bd post W) := by
  have ST0 := Aside0.mk (hs.alloc (.cells #[.int .i64 3, .string n, .int .i64 o, .slice A l.length c] 42))
  have KP0 := Aside0.mk ((FrKept.refl W).alloc (.cells #[.int .i64 3, .string n, .int .i64 o, .slice A l.length c] 42))
  have hu42 := Tryd.underlying42
  have HX := Aside0.mk hx
  have HB1 := Aside0.mk hb1
  have HB2 := Aside0.mk hb2
  have HP := Aside0.mk hp
  have HR := Aside0.mk hr
  have HLL := Aside0.mk hll
  have HZ := Aside0.mk (outJ_zero bd out l)
  clear hs hr hx hb1 hb2 hp
  go_enter Tryd.func73, Tryd.ntmps73
  go_wp2_with fail
  go_loopw [12] (fun v w' => ∃ j : Nat, j ≤ l.length ∧ v = .int .i64 j ∧ Aside0 (FrSt w0 bo bb bs ba bw bm bd (outJ bd out l j) w') ∧ Aside0 (FrKept W w')) (fun v _ => l.length - (intOf v).toNat)
  case atStart => exact ⟨0, by omega, rfl, ⟨by rw [HZ.out]; exact ST0.out⟩, KP0⟩
  case round =>
    obtain ⟨j, hj, rfl, HS, HK⟩ := hrel
    by_cases hlt : j < l.length
    · have hS := outJ_succ bd out l j hlt
      obtain ⟨ad, A3, c3, hA, h0, h1, h2, h3, hc3, hC3⟩ := atn42 HR.out j hlt
      subst hA
      have HM := Aside0.mk (HX.out j hlt bd (outJ bd out l j) A3 c3)
      have b1 := HB1.out j hlt
      have b2 := HB2.out j hlt
      generalize rd_T42 l (j : Int) = x at *
      replace h0 := pw_cell_below HS.out.be h0
      replace h1 := pw_cell_below HS.out.be h1
      replace h2 := pw_cell_below HS.out.be h2
      replace h3 := pw_cell_below HS.out.be h3
      have mbw : wr.cell? ⟨bw, 0, none⟩ = some (.func (.func 73) #[] #[.pointer (some ⟨bb, 0, none⟩), .pointer (some ⟨ba, 0, none⟩), .pointer (some ⟨bw, 0, none⟩)]) := (blk_cell HS.out.hw 0).trans rfl
      have hlw := World.block_lt_of_cell? wr _ mbw
      have q0 := eq_true (show (0 : Int) ≤ (j : Int) by omega)
      have q1 := eq_true (show (j : Int) < (l.length : Int) by omega)
      have q2 : IntKind.i64.wrap ((j : Int) + 1) = (j : Int) + 1 := IntWalk.i64_in _ (by omega)
      have HSU := Aside0.mk hS
      have HC3 := Aside0.mk hC3
      have Hc3 := Aside0.mk hc3
      have B1 := Aside0.mk b1
      have B2 := Aside0.mk b2
      have HLT := Aside0.mk hlt
      clear hS hC3 hc3 b1 b2 hj hll
      go_wp2_with (go_at_call 73; (with_reducible refine (HM.out _ ?s1 HC3.out Hc3.out B1.out B2.out).mono ?_); (case s1 => exact HS.out.alloc _); rintro e w1 ⟨rfl, f1, f2⟩; have ST1 := Aside0.mk f1; have KP1 := Aside0.mk ((HK.out.alloc _).trans f2); clear f1 f2)
      go_roundw
      case rel => exact ⟨j + 1, HLT.out, by go_num, ⟨by rw [HSU.out]; exact ST1.out⟩, KP1⟩
      case measure => simp [intOf]; omega
    · have q1 := eq_false (show ¬ ((j : Int) < (l.length : Int)) by omega)
      have hj2 : j = l.length := by omega
      have HS2 : Aside0 (FrSt w0 bo bb bs ba bw bm bd post wr) := ⟨by rw [← HP.out, ← hj2]; exact HS.out⟩
      clear hj2 hlt HS
      go_wp2
      go_end0
      exact ⟨rfl, HS2.out, HK.out⟩
set_option maxHeartbeats 4000000 in
set_option maxRecDepth 100000 in
theorem fwalk4 (w0 : World) (bo bb bs ba bw bm : Nat) (N : Nat) (bd out : List ByteArray) (n : ByteArray) (o : Int) (l : List S42) (A : Option Addr) (c : Nat) (W : World)
    (hs : FrSt w0 bo bb bs ba bw bm bd out W) (hr : Kd.C k42 w0 A l.length l) (hll : l.length ≤ 1000000) (hx : ∀ j, j < l.length → FrC w0 bo bb bs ba bw bm N (rd_T42 l (j : Int)))
    (hb1 : ∀ j, j < l.length → bd.length + szT (rd_T42 l (j : Int)) ≤ N) (hb2 : ∀ j, j < l.length → (outJ bd out l j).length + szT (rd_T42 l (j : Int)) ≤ N) (post : List ByteArray) (hp : outJ bd out l l.length = post) :
    Calls Tryd.prog 73 #[.agg #[.int .i64 4, .string n, .int .i64 o, .slice A l.length c], .pointer (some ⟨bb, 0, none⟩), .pointer (some ⟨ba, 0, none⟩), .pointer (some ⟨bw, 0, none⟩)] W (FrPost w0 bo bb bs ba bw bm bd post W) := by
  have ST0 := Aside0.mk (hs.alloc (.cells #[.int .i64 4, .string n, .int .i64 o, .slice A l.length c] 42))
  have KP0 := Aside0.mk ((FrKept.refl W).alloc (.cells #[.int .i64 4, .string n, .int .i64 o, .slice A l.length c] 42))
  have hu42 := Tryd.underlying42
  have HX := Aside0.mk hx
  have HB1 := Aside0.mk hb1
  have HB2 := Aside0.mk hb2
  have HP := Aside0.mk hp
  have HR := Aside0.mk hr
  have HLL := Aside0.mk hll
  have HZ := Aside0.mk (outJ_zero bd out l)
  clear hs hr hx hb1 hb2 hp
  go_enter Tryd.func73, Tryd.ntmps73
  go_wp2_with fail
  go_loopw [12] (fun v w' => ∃ j : Nat, j ≤ l.length ∧ v = .int .i64 j ∧ Aside0 (FrSt w0 bo bb bs ba bw bm bd (outJ bd out l j) w') ∧ Aside0 (FrKept W w')) (fun v _ => l.length - (intOf v).toNat)
  case atStart => exact ⟨0, by omega, rfl, ⟨by rw [HZ.out]; exact ST0.out⟩, KP0⟩
  case round =>
    obtain ⟨j, hj, rfl, HS, HK⟩ := hrel
    by_cases hlt : j < l.length
    · have hS := outJ_succ bd out l j hlt
      obtain ⟨ad, A3, c3, hA, h0, h1, h2, h3, hc3, hC3⟩ := atn42 HR.out j hlt
      subst hA
      have HM := Aside0.mk (HX.out j hlt bd (outJ bd out l j) A3 c3)
      have b1 := HB1.out j hlt
      have b2 := HB2.out j hlt
      generalize rd_T42 l (j : Int) = x at *
      replace h0 := pw_cell_below HS.out.be h0
      replace h1 := pw_cell_below HS.out.be h1
      replace h2 := pw_cell_below HS.out.be h2
      replace h3 := pw_cell_below HS.out.be h3
      have mbw : wr.cell? ⟨bw, 0, none⟩ = some (.func (.func 73) #[] #[.pointer (some ⟨bb, 0, none⟩), .pointer (some ⟨ba, 0, none⟩), .pointer (some ⟨bw, 0, none⟩)]) := (blk_cell HS.out.hw 0).trans rfl
      have hlw := World.block_lt_of_cell? wr _ mbw
      have q0 := eq_true (show (0 : Int) ≤ (j : Int) by omega)
      have q1 := eq_true (show (j : Int) < (l.length : Int) by omega)
      have q2 : IntKind.i64.wrap ((j : Int) + 1) = (j : Int) + 1 := IntWalk.i64_in _ (by omega)
      have HSU := Aside0.mk hS
      have HC3 := Aside0.mk hC3
      have Hc3 := Aside0.mk hc3
      have B1 := Aside0.mk b1
      have B2 := Aside0.mk b2
      have HLT := Aside0.mk hlt
      clear hS hC3 hc3 b1 b2 hj hll
      go_wp2_with (go_at_call 73; (with_reducible refine (HM.out _ ?s1 HC3.out Hc3.out B1.out B2.out).mono ?_); (case s1 => exact HS.out.alloc _); rintro e w1 ⟨rfl, f1, f2⟩; have ST1 := Aside0.mk f1; have KP1 := Aside0.mk ((HK.out.alloc _).trans f2); clear f1 f2)
      go_roundw
      case rel => exact ⟨j + 1, HLT.out, by go_num, ⟨by rw [HSU.out]; exact ST1.out⟩, KP1⟩
      case measure => simp [intOf]; omega
    · have q1 := eq_false (show ¬ ((j : Int) < (l.length : Int)) by omega)
      have hj2 : j = l.length := by omega
      have HS2 : Aside0 (FrSt w0 bo bb bs ba bw bm bd post wr) := ⟨by rw [← HP.out, ← hj2]; exact HS.out⟩
      clear hj2 hlt HS
      go_wp2
      go_end0
      exact ⟨rfl, HS2.out, HK.out⟩
set_option maxHeartbeats 4000000 in
set_option maxRecDepth 100000 in
theorem fwalk5 (w0 : World) (bo bb bs ba bw bm : Nat) (N : Nat) (bd out : List ByteArray) (n : ByteArray) (o : Int) (l : List S42) (A : Option Addr) (c : Nat) (W : World)
    (hs : FrSt w0 bo bb bs ba bw bm bd out W) (hr : Kd.C k42 w0 A l.length l) (hll : l.length ≤ 1000000) (hx : ∀ j, j < l.length → FrC w0 bo bb bs ba bw bm N (rd_T42 l (j : Int)))
    (hb1 : ∀ j, j < l.length → bd.length + szT (rd_T42 l (j : Int)) ≤ N) (hb2 : ∀ j, j < l.length → (outJ bd out l j).length + szT (rd_T42 l (j : Int)) ≤ N) (post : List ByteArray) (hp : outJ bd out l l.length = post) :
    Calls Tryd.prog 73 #[.agg #[.int .i64 5, .string n, .int .i64 o, .slice A l.length c], .pointer (some ⟨bb, 0, none⟩), .pointer (some ⟨ba, 0, none⟩), .pointer (some ⟨bw, 0, none⟩)] W (FrPost w0 bo bb bs ba bw bm bd post W) := by
  have ST0 := Aside0.mk (hs.alloc (.cells #[.int .i64 5, .string n, .int .i64 o, .slice A l.length c] 42))
  have KP0 := Aside0.mk ((FrKept.refl W).alloc (.cells #[.int .i64 5, .string n, .int .i64 o, .slice A l.length c] 42))
  have hu42 := Tryd.underlying42
  have HX := Aside0.mk hx
  have HB1 := Aside0.mk hb1
  have HB2 := Aside0.mk hb2
  have HP := Aside0.mk hp
  have HR := Aside0.mk hr
  have HLL := Aside0.mk hll
  have HZ := Aside0.mk (outJ_zero bd out l)
  clear hs hr hx hb1 hb2 hp
  go_enter Tryd.func73, Tryd.ntmps73
  go_wp2_with fail
  go_loopw [12] (fun v w' => ∃ j : Nat, j ≤ l.length ∧ v = .int .i64 j ∧ Aside0 (FrSt w0 bo bb bs ba bw bm bd (outJ bd out l j) w') ∧ Aside0 (FrKept W w')) (fun v _ => l.length - (intOf v).toNat)
  case atStart => exact ⟨0, by omega, rfl, ⟨by rw [HZ.out]; exact ST0.out⟩, KP0⟩
  case round =>
    obtain ⟨j, hj, rfl, HS, HK⟩ := hrel
    by_cases hlt : j < l.length
    · have hS := outJ_succ bd out l j hlt
      obtain ⟨ad, A3, c3, hA, h0, h1, h2, h3, hc3, hC3⟩ := atn42 HR.out j hlt
      subst hA
      have HM := Aside0.mk (HX.out j hlt bd (outJ bd out l j) A3 c3)
      have b1 := HB1.out j hlt
      have b2 := HB2.out j hlt
      generalize rd_T42 l (j : Int) = x at *
      replace h0 := pw_cell_below HS.out.be h0
      replace h1 := pw_cell_below HS.out.be h1
      replace h2 := pw_cell_below HS.out.be h2
      replace h3 := pw_cell_below HS.out.be h3
      have mbw : wr.cell? ⟨bw, 0, none⟩ = some (.func (.func 73) #[] #[.pointer (some ⟨bb, 0, none⟩), .pointer (some ⟨ba, 0, none⟩), .pointer (some ⟨bw, 0, none⟩)]) := (blk_cell HS.out.hw 0).trans rfl
      have hlw := World.block_lt_of_cell? wr _ mbw
      have q0 := eq_true (show (0 : Int) ≤ (j : Int) by omega)
      have q1 := eq_true (show (j : Int) < (l.length : Int) by omega)
      have q2 : IntKind.i64.wrap ((j : Int) + 1) = (j : Int) + 1 := IntWalk.i64_in _ (by omega)
      have HSU := Aside0.mk hS
      have HC3 := Aside0.mk hC3
      have Hc3 := Aside0.mk hc3
      have B1 := Aside0.mk b1
      have B2 := Aside0.mk b2
      have HLT := Aside0.mk hlt
      clear hS hC3 hc3 b1 b2 hj hll
      go_wp2_with (go_at_call 73; (with_reducible refine (HM.out _ ?s1 HC3.out Hc3.out B1.out B2.out).mono ?_); (case s1 => exact HS.out.alloc _); rintro e w1 ⟨rfl, f1, f2⟩; have ST1 := Aside0.mk f1; have KP1 := Aside0.mk ((HK.out.alloc _).trans f2); clear f1 f2)
      go_roundw
      case rel => exact ⟨j + 1, HLT.out, by go_num, ⟨by rw [HSU.out]; exact ST1.out⟩, KP1⟩
      case measure => simp [intOf]; omega
    · have q1 := eq_false (show ¬ ((j : Int) < (l.length : Int)) by omega)
      have hj2 : j = l.length := by omega
      have HS2 : Aside0 (FrSt w0 bo bb bs ba bw bm bd post wr) := ⟨by rw [← HP.out, ← hj2]; exact HS.out⟩
      clear hj2 hlt HS
      go_wp2
      go_end0
      exact ⟨rfl, HS2.out, HK.out⟩
set_option maxHeartbeats 4000000 in
set_option maxRecDepth 100000 in
theorem fwalk6 (w0 : World) (bo bb bs ba bw bm : Nat) (N : Nat) (bd out : List ByteArray) (n : ByteArray) (o : Int) (l : List S42) (A : Option Addr) (c : Nat) (W : World)
    (hs : FrSt w0 bo bb bs ba bw bm bd out W) (hr : Kd.C k42 w0 A l.length l) (hll : l.length ≤ 1000000) (hx : ∀ j, j < l.length → FrC w0 bo bb bs ba bw bm N (rd_T42 l (j : Int)))
    (hb1 : ∀ j, j < l.length → bd.length + szT (rd_T42 l (j : Int)) ≤ N) (hb2 : ∀ j, j < l.length → (outJ bd out l j).length + szT (rd_T42 l (j : Int)) ≤ N) (post : List ByteArray) (hp : outJ bd out l l.length = post) :
    Calls Tryd.prog 73 #[.agg #[.int .i64 6, .string n, .int .i64 o, .slice A l.length c], .pointer (some ⟨bb, 0, none⟩), .pointer (some ⟨ba, 0, none⟩), .pointer (some ⟨bw, 0, none⟩)] W (FrPost w0 bo bb bs ba bw bm bd post W) := by
  have ST0 := Aside0.mk (hs.alloc (.cells #[.int .i64 6, .string n, .int .i64 o, .slice A l.length c] 42))
  have KP0 := Aside0.mk ((FrKept.refl W).alloc (.cells #[.int .i64 6, .string n, .int .i64 o, .slice A l.length c] 42))
  have hu42 := Tryd.underlying42
  have HX := Aside0.mk hx
  have HB1 := Aside0.mk hb1
  have HB2 := Aside0.mk hb2
  have HP := Aside0.mk hp
  have HR := Aside0.mk hr
  have HLL := Aside0.mk hll
  have HZ := Aside0.mk (outJ_zero bd out l)
  clear hs hr hx hb1 hb2 hp
  go_enter Tryd.func73, Tryd.ntmps73
  go_wp2_with fail
  go_loopw [12] (fun v w' => ∃ j : Nat, j ≤ l.length ∧ v = .int .i64 j ∧ Aside0 (FrSt w0 bo bb bs ba bw bm bd (outJ bd out l j) w') ∧ Aside0 (FrKept W w')) (fun v _ => l.length - (intOf v).toNat)
  case atStart => exact ⟨0, by omega, rfl, ⟨by rw [HZ.out]; exact ST0.out⟩, KP0⟩
  case round =>
    obtain ⟨j, hj, rfl, HS, HK⟩ := hrel
    by_cases hlt : j < l.length
    · have hS := outJ_succ bd out l j hlt
      obtain ⟨ad, A3, c3, hA, h0, h1, h2, h3, hc3, hC3⟩ := atn42 HR.out j hlt
      subst hA
      have HM := Aside0.mk (HX.out j hlt bd (outJ bd out l j) A3 c3)
      have b1 := HB1.out j hlt
      have b2 := HB2.out j hlt
      generalize rd_T42 l (j : Int) = x at *
      replace h0 := pw_cell_below HS.out.be h0
      replace h1 := pw_cell_below HS.out.be h1
      replace h2 := pw_cell_below HS.out.be h2
      replace h3 := pw_cell_below HS.out.be h3
      have mbw : wr.cell? ⟨bw, 0, none⟩ = some (.func (.func 73) #[] #[.pointer (some ⟨bb, 0, none⟩), .pointer (some ⟨ba, 0, none⟩), .pointer (some ⟨bw, 0, none⟩)]) := (blk_cell HS.out.hw 0).trans rfl
      have hlw := World.block_lt_of_cell? wr _ mbw
      have q0 := eq_true (show (0 : Int) ≤ (j : Int) by omega)
      have q1 := eq_true (show (j : Int) < (l.length : Int) by omega)
      have q2 : IntKind.i64.wrap ((j : Int) + 1) = (j : Int) + 1 := IntWalk.i64_in _ (by omega)
      have HSU := Aside0.mk hS
      have HC3 := Aside0.mk hC3
      have Hc3 := Aside0.mk hc3
      have B1 := Aside0.mk b1
      have B2 := Aside0.mk b2
      have HLT := Aside0.mk hlt
      clear hS hC3 hc3 b1 b2 hj hll
      go_wp2_with (go_at_call 73; (with_reducible refine (HM.out _ ?s1 HC3.out Hc3.out B1.out B2.out).mono ?_); (case s1 => exact HS.out.alloc _); rintro e w1 ⟨rfl, f1, f2⟩; have ST1 := Aside0.mk f1; have KP1 := Aside0.mk ((HK.out.alloc _).trans f2); clear f1 f2)
      go_roundw
      case rel => exact ⟨j + 1, HLT.out, by go_num, ⟨by rw [HSU.out]; exact ST1.out⟩, KP1⟩
      case measure => simp [intOf]; omega
    · have q1 := eq_false (show ¬ ((j : Int) < (l.length : Int)) by omega)
      have hj2 : j = l.length := by omega
      have HS2 : Aside0 (FrSt w0 bo bb bs ba bw bm bd post wr) := ⟨by rw [← HP.out, ← hj2]; exact HS.out⟩
      clear hj2 hlt HS
      go_wp2
      go_end0
      exact ⟨rfl, HS2.out, HK.out⟩
set_option maxHeartbeats 4000000 in
set_option maxRecDepth 100000 in
theorem fwalk9 (w0 : World) (bo bb bs ba bw bm : Nat) (N : Nat) (bd out : List ByteArray) (n : ByteArray) (o : Int) (l : List S42) (A : Option Addr) (c : Nat) (W : World)
    (hs : FrSt w0 bo bb bs ba bw bm bd out W) (hr : Kd.C k42 w0 A l.length l) (hll : l.length ≤ 1000000) (hx : ∀ j, j < l.length → FrC w0 bo bb bs ba bw bm N (rd_T42 l (j : Int)))
    (hb1 : ∀ j, j < l.length → bd.length + szT (rd_T42 l (j : Int)) ≤ N) (hb2 : ∀ j, j < l.length → (outJ bd out l j).length + szT (rd_T42 l (j : Int)) ≤ N) (post : List ByteArray) (hp : outJ bd out l l.length = post) :
    Calls Tryd.prog 73 #[.agg #[.int .i64 9, .string n, .int .i64 o, .slice A l.length c], .pointer (some ⟨bb, 0, none⟩), .pointer (some ⟨ba, 0, none⟩), .pointer (some ⟨bw, 0, none⟩)] W (FrPost w0 bo bb bs ba bw bm bd post W) := by
  have ST0 := Aside0.mk (hs.alloc (.cells #[.int .i64 9, .string n, .int .i64 o, .slice A l.length c] 42))
  have KP0 := Aside0.mk ((FrKept.refl W).alloc (.cells #[.int .i64 9, .string n, .int .i64 o, .slice A l.length c] 42))
  have hu42 := Tryd.underlying42
  have HX := Aside0.mk hx
  have HB1 := Aside0.mk hb1
  have HB2 := Aside0.mk hb2
  have HP := Aside0.mk hp
  have HR := Aside0.mk hr
  have HLL := Aside0.mk hll
  have HZ := Aside0.mk (outJ_zero bd out l)
  clear hs hr hx hb1 hb2 hp
  go_enter Tryd.func73, Tryd.ntmps73
  go_wp2_with fail
  go_loopw [12] (fun v w' => ∃ j : Nat, j ≤ l.length ∧ v = .int .i64 j ∧ Aside0 (FrSt w0 bo bb bs ba bw bm bd (outJ bd out l j) w') ∧ Aside0 (FrKept W w')) (fun v _ => l.length - (intOf v).toNat)
  case atStart => exact ⟨0, by omega, rfl, ⟨by rw [HZ.out]; exact ST0.out⟩, KP0⟩
  case round =>
    obtain ⟨j, hj, rfl, HS, HK⟩ := hrel
    by_cases hlt : j < l.length
    · have hS := outJ_succ bd out l j hlt
      obtain ⟨ad, A3, c3, hA, h0, h1, h2, h3, hc3, hC3⟩ := atn42 HR.out j hlt
      subst hA
      have HM := Aside0.mk (HX.out j hlt bd (outJ bd out l j) A3 c3)
      have b1 := HB1.out j hlt
      have b2 := HB2.out j hlt
      generalize rd_T42 l (j : Int) = x at *
      replace h0 := pw_cell_below HS.out.be h0
      replace h1 := pw_cell_below HS.out.be h1
      replace h2 := pw_cell_below HS.out.be h2
      replace h3 := pw_cell_below HS.out.be h3
      have mbw : wr.cell? ⟨bw, 0, none⟩ = some (.func (.func 73) #[] #[.pointer (some ⟨bb, 0, none⟩), .pointer (some ⟨ba, 0, none⟩), .pointer (some ⟨bw, 0, none⟩)]) := (blk_cell HS.out.hw 0).trans rfl
      have hlw := World.block_lt_of_cell? wr _ mbw
      have q0 := eq_true (show (0 : Int) ≤ (j : Int) by omega)
      have q1 := eq_true (show (j : Int) < (l.length : Int) by omega)
      have q2 : IntKind.i64.wrap ((j : Int) + 1) = (j : Int) + 1 := IntWalk.i64_in _ (by omega)
      have HSU := Aside0.mk hS
      have HC3 := Aside0.mk hC3
      have Hc3 := Aside0.mk hc3
      have B1 := Aside0.mk b1
      have B2 := Aside0.mk b2
      have HLT := Aside0.mk hlt
      clear hS hC3 hc3 b1 b2 hj hll
      go_wp2_with (go_at_call 73; (with_reducible refine (HM.out _ ?s1 HC3.out Hc3.out B1.out B2.out).mono ?_); (case s1 => exact HS.out.alloc _); rintro e w1 ⟨rfl, f1, f2⟩; have ST1 := Aside0.mk f1; have KP1 := Aside0.mk ((HK.out.alloc _).trans f2); clear f1 f2)
      go_roundw
      case rel => exact ⟨j + 1, HLT.out, by go_num, ⟨by rw [HSU.out]; exact ST1.out⟩, KP1⟩
      case measure => simp [intOf]; omega
    · have q1 := eq_false (show ¬ ((j : Int) < (l.length : Int)) by omega)
      have hj2 : j = l.length := by omega
      have HS2 : Aside0 (FrSt w0 bo bb bs ba bw bm bd post wr) := ⟨by rw [← HP.out, ← hj2]; exact HS.out⟩
      clear hj2 hlt HS
      go_wp2
      go_end0
      exact ⟨rfl, HS2.out, HK.out⟩
end
end Go.Proofs.YtajefkjcfmfjkaaDoor
namespace Go.Proofs.YtajefkjcfmfjkaaDoor
section
set_option linter.unusedVariables false
set_option linter.unusedSimpArgs false
set_option linter.deprecated false
open Go.RowKit Go.Proofs.YtajefkjcfmfjkaaDoorW.PrintWords Go.Proofs.YtajefkjcfmfjkaaDoor.PRawForms
set_option linter.unusedVariables false
set_option linter.unusedSimpArgs false
theorem alloc_size1 (W : World) (o : Obj) : (W.alloc o).heap.size = W.heap.size + 1 := by simp
theorem bd_old {w0 W : World} {bo bb bs ba bw bm : Nat} {bd out : List ByteArray} (h : FrSt w0 bo bb bs ba bw bm bd out W) {o : Obj} {v : Value} (h2 : (W.alloc o).heap[bb]? = some (.cells #[v] 38 (0, 0))) : W.heap[bb]? = some (.cells #[v] 38 (0, 0)) := by
  obtain ⟨vo, vb, h1, h3, _⟩ := h.rows
  have : (W.alloc o).heap[bb]? = W.heap[bb]? := (below_alloc (Below.refl W.heap.size W) o).block _ (blk_lt h3)
  rwa [← this]
set_option maxHeartbeats 4000000 in
set_option maxRecDepth 100000 in
theorem fbind71 (w0 : World) (bo bb bs ba bw bm : Nat) (N : Nat) (bd out : List ByteArray) (n : ByteArray) (o : Int) (y : S42) (A : Option Addr) (c : Nat) (W : World)
    (hs : FrSt w0 bo bb bs ba bw bm bd out W) (hr : Kd.C k42 w0 A 1 [y]) (hy : FrC w0 bo bb bs ba bw bm N y) (hy1 : (bd ++ [n]).length + szT y ≤ N) (hy2 : out.length + szT y ≤ N) (hb : bd.length ≤ 100000000) :
    Calls Tryd.prog 73 #[.agg #[.int .i64 7, .string n, .int .i64 o, .slice A 1 c], .pointer (some ⟨bb, 0, none⟩), .pointer (some ⟨ba, 0, none⟩), .pointer (some ⟨bw, 0, none⟩)] W (FrPost w0 bo bb bs ba bw bm bd (frT y (bd ++ [n]) out) W) := by
  have ST0 := Aside0.mk (hs.alloc (.cells #[.int .i64 7, .string n, .int .i64 o, .slice A 1 c] 42))
  have KP0 := Aside0.mk ((FrKept.refl W).alloc (.cells #[.int .i64 7, .string n, .int .i64 o, .slice A 1 c] 42))
  have ST1 := Aside0.mk hs
  have BX0 : Aside0 ((W.alloc (.cells #[.int .i64 7, .string n, .int .i64 o, .slice A 1 c] 42)).heap[W.heap.size]? = some (.cells #[.int .i64 7, .string n, .int .i64 o, .slice A 1 c] 42 (0, 0))) := ⟨heap_alloc_new _ _⟩
  have KB := Aside0.mk (FrKept.refl (W.alloc (.cells #[.int .i64 7, .string n, .int .i64 o, .slice A 1 c] 42)))
  have hu42 := Tryd.underlying42
  obtain ⟨ad, A1, c1, hA, f0, f1, f2, f3, hc1, hC1⟩ := atn42 hr 0 (by omega)
  subst hA
  rw [show rd_T42 [y] ((0 : Nat) : Int) = y from rfl] at f0 f1 f2 f3 hc1 hC1
  rw [show ad.add (0 * 4) = ad from Addr.add_zero42 ad] at f0 f1 f2 f3
  have F0 := Aside0.mk (And.intro f0 (And.intro f1 (And.intro f2 f3)))
  have C1 := Aside0.mk (And.intro hc1 hC1)
  have HY := Aside0.mk (fun W' h => hy (bd ++ [n]) out A1 c1 W' h hC1 hc1 hy1 hy2)
  have q1 : IntKind.i64.wrap 0 = 0 := by decide
  have HLA : Aside0 (((pw_strs bd).length + 1) * 16 ≤ 140737488355328) := ⟨by simp only [pw_strs, List.length_map]; omega⟩
  have HBL := Aside0.mk hb
  have HB0 := Aside0.mk hs.rows
  clear f0 f1 f2 f3 hc1 hC1 hs hr hy hy1 hy2 hb
  have ST2 := ST0
  have KP2 := KB
  have hrw := ST0.out.rows
  obtain ⟨vo, vb, h1, h2, h3, h4, h5⟩ := hrw
  obtain ⟨A2, N2, c2, rfl⟩ := own_sl3 h4
  have mbb : W.cell? ⟨bb, 0, none⟩ = some (.slice A2 N2 c2) := (blk_cell (bd_old ST1.out h2) 0).trans rfl
  have hlb := World.block_lt_of_cell? W _ mbb
  have R2 := Aside0.mk (And.intro h1 (And.intro h2 (And.intro h3 (And.intro h4 h5))))
  clear h1 h2 h3 h4 h5
  go_enter Tryd.func73, Tryd.ntmps73
  go_wp2_with (at_builtin; refine print_append (w0 := w0) w0.heap.size rfl (.tmp 50) (.tmp 53) 38 9 (.string ⟨#[]⟩) 16 rfl Tryd.underlying38 infoS9 rfl (by decide) (.slice A2 N2 c2) (pw_strs bd) (.string n) rfl (by exact congrArg (fun z => Value.slice (some ⟨z, 0, none⟩) 1 1) (alloc_size1 W _).symm) rfl (by simpa [pw_strs] using R2.out.2.2.2.1) ST2.out.be (below_size ST2.out.be) HLA.out ?_; intro v3 w3 r2 hb2 hg2 hat; obtain ⟨A3, N3, c3, rfl⟩ := own_sl3 r2; have R3 := Aside0.mk r2; have HG3 := Aside0.mk hg2; have HAT := Aside0.mk hat; have HB3 := Aside0.mk hb2; have hbb3 := (hg2.block bb (blk_lt R2.out.2.1) (row_ne R2.out.2.2.2.1 R2.out.2.1 (by decide))).trans R2.out.2.1; have mo3 := (blk_cell hbb3 0).trans rfl; have fo3 := blk_frozen hbb3 0; clear r2 hg2 hat hb2 hbb3)
  obtain ⟨g1, g2⟩ := FrSt.pushed (n := n) ST2.out R2.out.1 R2.out.2.1 R2.out.2.2.1 R2.out.2.2.2.1 R2.out.2.2.2.2 (by simpa [pw_strs] using R3.out) HB3.out HG3.out HAT.out
  have ST4 := Aside0.mk g1
  have KP4 := Aside0.mk (KP2.out.trans g2)
  clear R2 R3 HG3 HAT HB3 mo3 fo3 mbb hlb ST2 KP2 g1 g2
  generalize w3.setCell ⟨bb, 0, none⟩ (.slice A3 N3 c3) = w4 at *
  have m3 : w4.cell? ⟨W.heap.size, 3, none⟩ = some (.slice (some ad) 1 c) := (KP4.out.cell BX0.out (by decide) (by decide)).trans rfl
  have mbw : w4.cell? ⟨bw, 0, none⟩ = some (.func (.func 73) #[] #[.pointer (some ⟨bb, 0, none⟩), .pointer (some ⟨ba, 0, none⟩), .pointer (some ⟨bw, 0, none⟩)]) := (blk_cell ST4.out.hw 0).trans rfl
  have f0 := pw_cell_below ST4.out.be F0.out.1
  have f1 := pw_cell_below ST4.out.be F0.out.2.1
  have f2 := pw_cell_below ST4.out.be F0.out.2.2.1
  have f3 := pw_cell_below ST4.out.be F0.out.2.2.2
  go_still_tail 9, (by kernel_rfl)
  change wpList _ _ _ _ _ w4.drew
  have STd := Aside0.mk ST4.out.drew
  have KPd := Aside0.mk KP4.out.drew
  clear f0 f1 f2 f3 m3 mbw ST4 KP4
  generalize w4.drew = w5 at *
  go_wp2_with (go_at_call 73; (with_reducible refine (HY.out _ STd.out).mono ?_); rintro e w6 ⟨rfl, g1, g2⟩; have ST6 := Aside0.mk g1; have KP6 := Aside0.mk (KPd.out.trans g2); obtain ⟨vo6, vb6, h1, h2, h3, h4, h5⟩ := g1.rows; obtain ⟨A6, c6, rfl⟩ := own_slice h4; rw [show (bd ++ [n]).length = bd.length + 1 from by simp] at h2 h4 h5; have mb6 : w6.cell? ⟨bb, 0, none⟩ = some (.slice A6 (bd.length + 1) c6) := (blk_cell h2 0).trans rfl; have fb6 := blk_frozen h2 0; have hcap := own_cap h4; have hbd := HBL.out; have R6 := Aside0.mk (And.intro h1 (And.intro h2 (And.intro h3 (And.intro h4 h5)))); clear g1 g2 h1 h2 h3 h4 h5; have q6 : IntKind.i64.wrap (bd.length : Int) = (bd.length : Int) := (IntWalk.i64_in _ (by omega)); have q7 := eq_true (show (0 : Int) ≤ (bd.length : Int) by omega); have q8 := eq_true (show (bd.length : Int) ≤ (c6 : Int) by omega); clear hcap hbd)
  go_end0
  obtain ⟨g1, g2⟩ := FrSt.popped ST6.out R6.out.1 R6.out.2.1 R6.out.2.2.1 R6.out.2.2.2.1 R6.out.2.2.2.2
  exact ⟨rfl, g1, KP0.out.trans (KP6.out.trans g2)⟩
set_option maxHeartbeats 4000000 in
set_option maxRecDepth 100000 in
theorem fbind72 (w0 : World) (bo bb bs ba bw bm : Nat) (N : Nat) (bd out : List ByteArray) (n : ByteArray) (o : Int) (x y : S42) (A : Option Addr) (c : Nat) (W : World)
    (hs : FrSt w0 bo bb bs ba bw bm bd out W) (hr : Kd.C k42 w0 A 2 [x, y]) (hx : FrC w0 bo bb bs ba bw bm N x) (hx1 : bd.length + szT x ≤ N) (hx2 : out.length + szT x ≤ N) (hy : FrC w0 bo bb bs ba bw bm N y) (hy1 : (bd ++ [n]).length + szT y ≤ N) (hy2 : (frT x bd out).length + szT y ≤ N) (hb : bd.length ≤ 100000000) :
    Calls Tryd.prog 73 #[.agg #[.int .i64 7, .string n, .int .i64 o, .slice A 2 c], .pointer (some ⟨bb, 0, none⟩), .pointer (some ⟨ba, 0, none⟩), .pointer (some ⟨bw, 0, none⟩)] W (FrPost w0 bo bb bs ba bw bm bd (frT y (bd ++ [n]) (frT x bd out)) W) := by
  have ST0 := Aside0.mk (hs.alloc (.cells #[.int .i64 7, .string n, .int .i64 o, .slice A 2 c] 42))
  have KP0 := Aside0.mk ((FrKept.refl W).alloc (.cells #[.int .i64 7, .string n, .int .i64 o, .slice A 2 c] 42))
  have ST1 := Aside0.mk hs
  have BX0 : Aside0 ((W.alloc (.cells #[.int .i64 7, .string n, .int .i64 o, .slice A 2 c] 42)).heap[W.heap.size]? = some (.cells #[.int .i64 7, .string n, .int .i64 o, .slice A 2 c] 42 (0, 0))) := ⟨heap_alloc_new _ _⟩
  have KB := Aside0.mk (FrKept.refl (W.alloc (.cells #[.int .i64 7, .string n, .int .i64 o, .slice A 2 c] 42)))
  have hu42 := Tryd.underlying42
  obtain ⟨ad, A0, c0, hA, e0, e1, e2, e3, hc0, hC0⟩ := atn42 hr 0 (by omega)
  obtain ⟨ad', A1, c1, hA', f0, f1, f2, f3, hc1, hC1⟩ := atn42 hr 1 (by omega)
  subst hA
  obtain rfl := Option.some.inj hA'
  rw [show rd_T42 [x, y] ((0 : Nat) : Int) = x from rfl] at e0 e1 e2 e3 hc0 hC0
  rw [show ad.add (0 * 4) = ad from Addr.add_zero42 ad] at e0 e1 e2 e3
  rw [show rd_T42 [x, y] ((1 : Nat) : Int) = y from rfl] at f0 f1 f2 f3 hc1 hC1
  rw [Addr.add_one42 ad] at f0 f1 f2 f3
  simp only at f1 f2 f3
  have E0 := Aside0.mk (And.intro e0 (And.intro e1 (And.intro e2 e3)))
  have F0 := Aside0.mk (And.intro f0 (And.intro f1 (And.intro f2 f3)))
  have C1 := Aside0.mk (And.intro hc1 hC1)
  have HX := Aside0.mk (fun W' h => hx bd out A0 c0 W' h hC0 hc0 hx1 hx2)
  have HY := Aside0.mk (fun W' h => hy (bd ++ [n]) (frT x bd out) A1 c1 W' h hC1 hc1 hy1 hy2)
  have q1 : IntKind.i64.wrap 1 = 1 := by decide
  have HLA : Aside0 (((pw_strs bd).length + 1) * 16 ≤ 140737488355328) := ⟨by simp only [pw_strs, List.length_map]; omega⟩
  have HBL := Aside0.mk hb
  have HB0 := Aside0.mk hs.rows
  clear f0 f1 f2 f3 hc1 hC1 hs hr hy hy1 hy2 hb hx hx1 hx2 hc0 hC0
  go_enter Tryd.func73, Tryd.ntmps73
  go_wp2_with fail
  generalize W.alloc (.cells #[.int .i64 7, .string n, .int .i64 o, .slice (some ad) 2 c] 42) = w1 at *
  have m3 : w1.cell? ⟨W.heap.size, 3, none⟩ = some (.slice (some ad) 2 c) := (KB.out.cell BX0.out (by decide) (by decide)).trans rfl
  have mbw : w1.cell? ⟨bw, 0, none⟩ = some (.func (.func 73) #[] #[.pointer (some ⟨bb, 0, none⟩), .pointer (some ⟨ba, 0, none⟩), .pointer (some ⟨bw, 0, none⟩)]) := (blk_cell ST0.out.hw 0).trans rfl
  have e0 := pw_cell_below ST0.out.be E0.out.1
  have e1 := pw_cell_below ST0.out.be E0.out.2.1
  have e2 := pw_cell_below ST0.out.be E0.out.2.2.1
  have e3 := pw_cell_below ST0.out.be E0.out.2.2.2
  go_still_tail 5, (by kernel_rfl)
  change wpList _ _ _ _ _ w1.drew
  have STd := Aside0.mk ST0.out.drew
  have KPd := Aside0.mk KB.out.drew
  clear e0 e1 e2 e3 mbw m3
  generalize w1.drew = w1d at *
  go_wp2_with (first | (go_at_call 73; (with_reducible refine (HX.out _ STd.out).mono ?_); rintro e w2 ⟨rfl, g1, g2⟩; have ST2 := Aside0.mk g1; have KP2 := Aside0.mk (KPd.out.trans g2); obtain ⟨vo, vb, h1, h2, h3, h4, h5⟩ := g1.rows; obtain ⟨A2, N2, c2, rfl⟩ := own_sl3 h4; have mbb : w2.cell? ⟨bb, 0, none⟩ = some (.slice A2 N2 c2) := (blk_cell h2 0).trans rfl; have mn : w2.cell? ⟨W.heap.size, 1, none⟩ = some (.string n) := (KP2.out.cell BX0.out (by decide) (by decide)).trans rfl; have hln := World.block_lt_of_cell? w2 _ mn; have R2 := Aside0.mk (And.intro h1 (And.intro h2 (And.intro h3 (And.intro h4 h5)))); clear g1 g2 h1 h2 h3 h4 h5) | (at_builtin; refine print_append (w0 := w0) w0.heap.size rfl (.tmp 50) (.tmp 53) 38 9 (.string ⟨#[]⟩) 16 rfl Tryd.underlying38 infoS9 rfl (by decide) (.slice A2 N2 c2) (pw_strs bd) (.string n) rfl rfl rfl (by simpa [pw_strs] using R2.out.2.2.2.1) ST2.out.be (below_size ST2.out.be) HLA.out ?_; intro v3 w3 r2 hb2 hg2 hat; obtain ⟨A3, N3, c3, rfl⟩ := own_sl3 r2; have R3 := Aside0.mk r2; have HG3 := Aside0.mk hg2; have HAT := Aside0.mk hat; have HB3 := Aside0.mk hb2; have hbb3 := (hg2.block bb (blk_lt R2.out.2.1) (row_ne R2.out.2.2.2.1 R2.out.2.1 (by decide))).trans R2.out.2.1; have mo3 := (blk_cell hbb3 0).trans rfl; have fo3 := blk_frozen hbb3 0; clear r2 hg2 hat hb2 hbb3))
  obtain ⟨g1, g2⟩ := FrSt.pushed (n := n) ST2.out R2.out.1 R2.out.2.1 R2.out.2.2.1 R2.out.2.2.2.1 R2.out.2.2.2.2 (by simpa [pw_strs] using R3.out) HB3.out HG3.out HAT.out
  have ST4 := Aside0.mk g1
  have KP4 := Aside0.mk (KP2.out.trans g2)
  clear R2 R3 HG3 HAT HB3 mo3 fo3 mbb mn hln ST2 KP2 g1 g2
  generalize w3.setCell ⟨bb, 0, none⟩ (.slice A3 N3 c3) = w4 at *
  have m3 : w4.cell? ⟨W.heap.size, 3, none⟩ = some (.slice (some ad) 2 c) := (KP4.out.cell BX0.out (by decide) (by decide)).trans rfl
  have mbw : w4.cell? ⟨bw, 0, none⟩ = some (.func (.func 73) #[] #[.pointer (some ⟨bb, 0, none⟩), .pointer (some ⟨ba, 0, none⟩), .pointer (some ⟨bw, 0, none⟩)]) := (blk_cell ST4.out.hw 0).trans rfl
  have f0 := pw_cell_below ST4.out.be F0.out.1
  have f1 := pw_cell_below ST4.out.be F0.out.2.1
  have f2 := pw_cell_below ST4.out.be F0.out.2.2.1
  have f3 := pw_cell_below ST4.out.be F0.out.2.2.2
  go_still_tail 9, (by kernel_rfl)
  change wpList _ _ _ _ _ w4.drew
  have STd := Aside0.mk ST4.out.drew
  have KPd := Aside0.mk KP4.out.drew
  clear f0 f1 f2 f3 m3 mbw ST4 KP4
  generalize w4.drew = w5 at *
  go_wp2_with (go_at_call 73; (with_reducible refine (HY.out _ STd.out).mono ?_); rintro e w6 ⟨rfl, g1, g2⟩; have ST6 := Aside0.mk g1; have KP6 := Aside0.mk (KPd.out.trans g2); obtain ⟨vo6, vb6, h1, h2, h3, h4, h5⟩ := g1.rows; obtain ⟨A6, c6, rfl⟩ := own_slice h4; rw [show (bd ++ [n]).length = bd.length + 1 from by simp] at h2 h4 h5; have mb6 : w6.cell? ⟨bb, 0, none⟩ = some (.slice A6 (bd.length + 1) c6) := (blk_cell h2 0).trans rfl; have fb6 := blk_frozen h2 0; have hcap := own_cap h4; have hbd := HBL.out; have R6 := Aside0.mk (And.intro h1 (And.intro h2 (And.intro h3 (And.intro h4 h5)))); clear g1 g2 h1 h2 h3 h4 h5; have q6 : IntKind.i64.wrap (bd.length : Int) = (bd.length : Int) := (IntWalk.i64_in _ (by omega)); have q7 := eq_true (show (0 : Int) ≤ (bd.length : Int) by omega); have q8 := eq_true (show (bd.length : Int) ≤ (c6 : Int) by omega); clear hcap hbd)
  go_end0
  obtain ⟨g1, g2⟩ := FrSt.popped ST6.out R6.out.1 R6.out.2.1 R6.out.2.2.1 R6.out.2.2.2.1 R6.out.2.2.2.2
  exact ⟨rfl, g1, KP0.out.trans (KP6.out.trans g2)⟩
set_option maxHeartbeats 4000000 in
set_option maxRecDepth 100000 in
theorem fbind81 (w0 : World) (bo bb bs ba bw bm : Nat) (N : Nat) (bd out : List ByteArray) (n : ByteArray) (o : Int) (y : S42) (A : Option Addr) (c : Nat) (W : World)
    (hs : FrSt w0 bo bb bs ba bw bm bd out W) (hr : Kd.C k42 w0 A 1 [y]) (hy : FrC w0 bo bb bs ba bw bm N y) (hy1 : (bd ++ [n]).length + szT y ≤ N) (hy2 : out.length + szT y ≤ N) (hb : bd.length ≤ 100000000) :
    Calls Tryd.prog 73 #[.agg #[.int .i64 8, .string n, .int .i64 o, .slice A 1 c], .pointer (some ⟨bb, 0, none⟩), .pointer (some ⟨ba, 0, none⟩), .pointer (some ⟨bw, 0, none⟩)] W (FrPost w0 bo bb bs ba bw bm bd (frT y (bd ++ [n]) out) W) := by
  have ST0 := Aside0.mk (hs.alloc (.cells #[.int .i64 8, .string n, .int .i64 o, .slice A 1 c] 42))
  have KP0 := Aside0.mk ((FrKept.refl W).alloc (.cells #[.int .i64 8, .string n, .int .i64 o, .slice A 1 c] 42))
  have ST1 := Aside0.mk hs
  have BX0 : Aside0 ((W.alloc (.cells #[.int .i64 8, .string n, .int .i64 o, .slice A 1 c] 42)).heap[W.heap.size]? = some (.cells #[.int .i64 8, .string n, .int .i64 o, .slice A 1 c] 42 (0, 0))) := ⟨heap_alloc_new _ _⟩
  have KB := Aside0.mk (FrKept.refl (W.alloc (.cells #[.int .i64 8, .string n, .int .i64 o, .slice A 1 c] 42)))
  have hu42 := Tryd.underlying42
  obtain ⟨ad, A1, c1, hA, f0, f1, f2, f3, hc1, hC1⟩ := atn42 hr 0 (by omega)
  subst hA
  rw [show rd_T42 [y] ((0 : Nat) : Int) = y from rfl] at f0 f1 f2 f3 hc1 hC1
  rw [show ad.add (0 * 4) = ad from Addr.add_zero42 ad] at f0 f1 f2 f3
  have F0 := Aside0.mk (And.intro f0 (And.intro f1 (And.intro f2 f3)))
  have C1 := Aside0.mk (And.intro hc1 hC1)
  have HY := Aside0.mk (fun W' h => hy (bd ++ [n]) out A1 c1 W' h hC1 hc1 hy1 hy2)
  have q1 : IntKind.i64.wrap 0 = 0 := by decide
  have HLA : Aside0 (((pw_strs bd).length + 1) * 16 ≤ 140737488355328) := ⟨by simp only [pw_strs, List.length_map]; omega⟩
  have HBL := Aside0.mk hb
  have HB0 := Aside0.mk hs.rows
  clear f0 f1 f2 f3 hc1 hC1 hs hr hy hy1 hy2 hb
  have ST2 := ST0
  have KP2 := KB
  have hrw := ST0.out.rows
  obtain ⟨vo, vb, h1, h2, h3, h4, h5⟩ := hrw
  obtain ⟨A2, N2, c2, rfl⟩ := own_sl3 h4
  have mbb : W.cell? ⟨bb, 0, none⟩ = some (.slice A2 N2 c2) := (blk_cell (bd_old ST1.out h2) 0).trans rfl
  have hlb := World.block_lt_of_cell? W _ mbb
  have R2 := Aside0.mk (And.intro h1 (And.intro h2 (And.intro h3 (And.intro h4 h5))))
  clear h1 h2 h3 h4 h5
  go_enter Tryd.func73, Tryd.ntmps73
  go_wp2_with (at_builtin; refine print_append (w0 := w0) w0.heap.size rfl (.tmp 50) (.tmp 53) 38 9 (.string ⟨#[]⟩) 16 rfl Tryd.underlying38 infoS9 rfl (by decide) (.slice A2 N2 c2) (pw_strs bd) (.string n) rfl (by exact congrArg (fun z => Value.slice (some ⟨z, 0, none⟩) 1 1) (alloc_size1 W _).symm) rfl (by simpa [pw_strs] using R2.out.2.2.2.1) ST2.out.be (below_size ST2.out.be) HLA.out ?_; intro v3 w3 r2 hb2 hg2 hat; obtain ⟨A3, N3, c3, rfl⟩ := own_sl3 r2; have R3 := Aside0.mk r2; have HG3 := Aside0.mk hg2; have HAT := Aside0.mk hat; have HB3 := Aside0.mk hb2; have hbb3 := (hg2.block bb (blk_lt R2.out.2.1) (row_ne R2.out.2.2.2.1 R2.out.2.1 (by decide))).trans R2.out.2.1; have mo3 := (blk_cell hbb3 0).trans rfl; have fo3 := blk_frozen hbb3 0; clear r2 hg2 hat hb2 hbb3)
  obtain ⟨g1, g2⟩ := FrSt.pushed (n := n) ST2.out R2.out.1 R2.out.2.1 R2.out.2.2.1 R2.out.2.2.2.1 R2.out.2.2.2.2 (by simpa [pw_strs] using R3.out) HB3.out HG3.out HAT.out
  have ST4 := Aside0.mk g1
  have KP4 := Aside0.mk (KP2.out.trans g2)
  clear R2 R3 HG3 HAT HB3 mo3 fo3 mbb hlb ST2 KP2 g1 g2
  generalize w3.setCell ⟨bb, 0, none⟩ (.slice A3 N3 c3) = w4 at *
  have m3 : w4.cell? ⟨W.heap.size, 3, none⟩ = some (.slice (some ad) 1 c) := (KP4.out.cell BX0.out (by decide) (by decide)).trans rfl
  have mbw : w4.cell? ⟨bw, 0, none⟩ = some (.func (.func 73) #[] #[.pointer (some ⟨bb, 0, none⟩), .pointer (some ⟨ba, 0, none⟩), .pointer (some ⟨bw, 0, none⟩)]) := (blk_cell ST4.out.hw 0).trans rfl
  have f0 := pw_cell_below ST4.out.be F0.out.1
  have f1 := pw_cell_below ST4.out.be F0.out.2.1
  have f2 := pw_cell_below ST4.out.be F0.out.2.2.1
  have f3 := pw_cell_below ST4.out.be F0.out.2.2.2
  go_still_tail 9, (by kernel_rfl)
  change wpList _ _ _ _ _ w4.drew
  have STd := Aside0.mk ST4.out.drew
  have KPd := Aside0.mk KP4.out.drew
  clear f0 f1 f2 f3 m3 mbw ST4 KP4
  generalize w4.drew = w5 at *
  go_wp2_with (go_at_call 73; (with_reducible refine (HY.out _ STd.out).mono ?_); rintro e w6 ⟨rfl, g1, g2⟩; have ST6 := Aside0.mk g1; have KP6 := Aside0.mk (KPd.out.trans g2); obtain ⟨vo6, vb6, h1, h2, h3, h4, h5⟩ := g1.rows; obtain ⟨A6, c6, rfl⟩ := own_slice h4; rw [show (bd ++ [n]).length = bd.length + 1 from by simp] at h2 h4 h5; have mb6 : w6.cell? ⟨bb, 0, none⟩ = some (.slice A6 (bd.length + 1) c6) := (blk_cell h2 0).trans rfl; have fb6 := blk_frozen h2 0; have hcap := own_cap h4; have hbd := HBL.out; have R6 := Aside0.mk (And.intro h1 (And.intro h2 (And.intro h3 (And.intro h4 h5)))); clear g1 g2 h1 h2 h3 h4 h5; have q6 : IntKind.i64.wrap (bd.length : Int) = (bd.length : Int) := (IntWalk.i64_in _ (by omega)); have q7 := eq_true (show (0 : Int) ≤ (bd.length : Int) by omega); have q8 := eq_true (show (bd.length : Int) ≤ (c6 : Int) by omega); clear hcap hbd)
  go_end0
  obtain ⟨g1, g2⟩ := FrSt.popped ST6.out R6.out.1 R6.out.2.1 R6.out.2.2.1 R6.out.2.2.2.1 R6.out.2.2.2.2
  exact ⟨rfl, g1, KP0.out.trans (KP6.out.trans g2)⟩
set_option maxHeartbeats 4000000 in
set_option maxRecDepth 100000 in
theorem fbind82 (w0 : World) (bo bb bs ba bw bm : Nat) (N : Nat) (bd out : List ByteArray) (n : ByteArray) (o : Int) (x y : S42) (A : Option Addr) (c : Nat) (W : World)
    (hs : FrSt w0 bo bb bs ba bw bm bd out W) (hr : Kd.C k42 w0 A 2 [x, y]) (hx : FrC w0 bo bb bs ba bw bm N x) (hx1 : bd.length + szT x ≤ N) (hx2 : out.length + szT x ≤ N) (hy : FrC w0 bo bb bs ba bw bm N y) (hy1 : (bd ++ [n]).length + szT y ≤ N) (hy2 : (frT x bd out).length + szT y ≤ N) (hb : bd.length ≤ 100000000) :
    Calls Tryd.prog 73 #[.agg #[.int .i64 8, .string n, .int .i64 o, .slice A 2 c], .pointer (some ⟨bb, 0, none⟩), .pointer (some ⟨ba, 0, none⟩), .pointer (some ⟨bw, 0, none⟩)] W (FrPost w0 bo bb bs ba bw bm bd (frT y (bd ++ [n]) (frT x bd out)) W) := by
  have ST0 := Aside0.mk (hs.alloc (.cells #[.int .i64 8, .string n, .int .i64 o, .slice A 2 c] 42))
  have KP0 := Aside0.mk ((FrKept.refl W).alloc (.cells #[.int .i64 8, .string n, .int .i64 o, .slice A 2 c] 42))
  have ST1 := Aside0.mk hs
  have BX0 : Aside0 ((W.alloc (.cells #[.int .i64 8, .string n, .int .i64 o, .slice A 2 c] 42)).heap[W.heap.size]? = some (.cells #[.int .i64 8, .string n, .int .i64 o, .slice A 2 c] 42 (0, 0))) := ⟨heap_alloc_new _ _⟩
  have KB := Aside0.mk (FrKept.refl (W.alloc (.cells #[.int .i64 8, .string n, .int .i64 o, .slice A 2 c] 42)))
  have hu42 := Tryd.underlying42
  obtain ⟨ad, A0, c0, hA, e0, e1, e2, e3, hc0, hC0⟩ := atn42 hr 0 (by omega)
  obtain ⟨ad', A1, c1, hA', f0, f1, f2, f3, hc1, hC1⟩ := atn42 hr 1 (by omega)
  subst hA
  obtain rfl := Option.some.inj hA'
  rw [show rd_T42 [x, y] ((0 : Nat) : Int) = x from rfl] at e0 e1 e2 e3 hc0 hC0
  rw [show ad.add (0 * 4) = ad from Addr.add_zero42 ad] at e0 e1 e2 e3
  rw [show rd_T42 [x, y] ((1 : Nat) : Int) = y from rfl] at f0 f1 f2 f3 hc1 hC1
  rw [Addr.add_one42 ad] at f0 f1 f2 f3
  simp only at f1 f2 f3
  have E0 := Aside0.mk (And.intro e0 (And.intro e1 (And.intro e2 e3)))
  have F0 := Aside0.mk (And.intro f0 (And.intro f1 (And.intro f2 f3)))
  have C1 := Aside0.mk (And.intro hc1 hC1)
  have HX := Aside0.mk (fun W' h => hx bd out A0 c0 W' h hC0 hc0 hx1 hx2)
  have HY := Aside0.mk (fun W' h => hy (bd ++ [n]) (frT x bd out) A1 c1 W' h hC1 hc1 hy1 hy2)
  have q1 : IntKind.i64.wrap 1 = 1 := by decide
  have HLA : Aside0 (((pw_strs bd).length + 1) * 16 ≤ 140737488355328) := ⟨by simp only [pw_strs, List.length_map]; omega⟩
  have HBL := Aside0.mk hb
  have HB0 := Aside0.mk hs.rows
  clear f0 f1 f2 f3 hc1 hC1 hs hr hy hy1 hy2 hb hx hx1 hx2 hc0 hC0
  go_enter Tryd.func73, Tryd.ntmps73
  go_wp2_with fail
  generalize W.alloc (.cells #[.int .i64 8, .string n, .int .i64 o, .slice (some ad) 2 c] 42) = w1 at *
  have m3 : w1.cell? ⟨W.heap.size, 3, none⟩ = some (.slice (some ad) 2 c) := (KB.out.cell BX0.out (by decide) (by decide)).trans rfl
  have mbw : w1.cell? ⟨bw, 0, none⟩ = some (.func (.func 73) #[] #[.pointer (some ⟨bb, 0, none⟩), .pointer (some ⟨ba, 0, none⟩), .pointer (some ⟨bw, 0, none⟩)]) := (blk_cell ST0.out.hw 0).trans rfl
  have e0 := pw_cell_below ST0.out.be E0.out.1
  have e1 := pw_cell_below ST0.out.be E0.out.2.1
  have e2 := pw_cell_below ST0.out.be E0.out.2.2.1
  have e3 := pw_cell_below ST0.out.be E0.out.2.2.2
  go_still_tail 5, (by kernel_rfl)
  change wpList _ _ _ _ _ w1.drew
  have STd := Aside0.mk ST0.out.drew
  have KPd := Aside0.mk KB.out.drew
  clear e0 e1 e2 e3 mbw m3
  generalize w1.drew = w1d at *
  go_wp2_with (first | (go_at_call 73; (with_reducible refine (HX.out _ STd.out).mono ?_); rintro e w2 ⟨rfl, g1, g2⟩; have ST2 := Aside0.mk g1; have KP2 := Aside0.mk (KPd.out.trans g2); obtain ⟨vo, vb, h1, h2, h3, h4, h5⟩ := g1.rows; obtain ⟨A2, N2, c2, rfl⟩ := own_sl3 h4; have mbb : w2.cell? ⟨bb, 0, none⟩ = some (.slice A2 N2 c2) := (blk_cell h2 0).trans rfl; have mn : w2.cell? ⟨W.heap.size, 1, none⟩ = some (.string n) := (KP2.out.cell BX0.out (by decide) (by decide)).trans rfl; have hln := World.block_lt_of_cell? w2 _ mn; have R2 := Aside0.mk (And.intro h1 (And.intro h2 (And.intro h3 (And.intro h4 h5)))); clear g1 g2 h1 h2 h3 h4 h5) | (at_builtin; refine print_append (w0 := w0) w0.heap.size rfl (.tmp 50) (.tmp 53) 38 9 (.string ⟨#[]⟩) 16 rfl Tryd.underlying38 infoS9 rfl (by decide) (.slice A2 N2 c2) (pw_strs bd) (.string n) rfl rfl rfl (by simpa [pw_strs] using R2.out.2.2.2.1) ST2.out.be (below_size ST2.out.be) HLA.out ?_; intro v3 w3 r2 hb2 hg2 hat; obtain ⟨A3, N3, c3, rfl⟩ := own_sl3 r2; have R3 := Aside0.mk r2; have HG3 := Aside0.mk hg2; have HAT := Aside0.mk hat; have HB3 := Aside0.mk hb2; have hbb3 := (hg2.block bb (blk_lt R2.out.2.1) (row_ne R2.out.2.2.2.1 R2.out.2.1 (by decide))).trans R2.out.2.1; have mo3 := (blk_cell hbb3 0).trans rfl; have fo3 := blk_frozen hbb3 0; clear r2 hg2 hat hb2 hbb3))
  obtain ⟨g1, g2⟩ := FrSt.pushed (n := n) ST2.out R2.out.1 R2.out.2.1 R2.out.2.2.1 R2.out.2.2.2.1 R2.out.2.2.2.2 (by simpa [pw_strs] using R3.out) HB3.out HG3.out HAT.out
  have ST4 := Aside0.mk g1
  have KP4 := Aside0.mk (KP2.out.trans g2)
  clear R2 R3 HG3 HAT HB3 mo3 fo3 mbb mn hln ST2 KP2 g1 g2
  generalize w3.setCell ⟨bb, 0, none⟩ (.slice A3 N3 c3) = w4 at *
  have m3 : w4.cell? ⟨W.heap.size, 3, none⟩ = some (.slice (some ad) 2 c) := (KP4.out.cell BX0.out (by decide) (by decide)).trans rfl
  have mbw : w4.cell? ⟨bw, 0, none⟩ = some (.func (.func 73) #[] #[.pointer (some ⟨bb, 0, none⟩), .pointer (some ⟨ba, 0, none⟩), .pointer (some ⟨bw, 0, none⟩)]) := (blk_cell ST4.out.hw 0).trans rfl
  have f0 := pw_cell_below ST4.out.be F0.out.1
  have f1 := pw_cell_below ST4.out.be F0.out.2.1
  have f2 := pw_cell_below ST4.out.be F0.out.2.2.1
  have f3 := pw_cell_below ST4.out.be F0.out.2.2.2
  go_still_tail 9, (by kernel_rfl)
  change wpList _ _ _ _ _ w4.drew
  have STd := Aside0.mk ST4.out.drew
  have KPd := Aside0.mk KP4.out.drew
  clear f0 f1 f2 f3 m3 mbw ST4 KP4
  generalize w4.drew = w5 at *
  go_wp2_with (go_at_call 73; (with_reducible refine (HY.out _ STd.out).mono ?_); rintro e w6 ⟨rfl, g1, g2⟩; have ST6 := Aside0.mk g1; have KP6 := Aside0.mk (KPd.out.trans g2); obtain ⟨vo6, vb6, h1, h2, h3, h4, h5⟩ := g1.rows; obtain ⟨A6, c6, rfl⟩ := own_slice h4; rw [show (bd ++ [n]).length = bd.length + 1 from by simp] at h2 h4 h5; have mb6 : w6.cell? ⟨bb, 0, none⟩ = some (.slice A6 (bd.length + 1) c6) := (blk_cell h2 0).trans rfl; have fb6 := blk_frozen h2 0; have hcap := own_cap h4; have hbd := HBL.out; have R6 := Aside0.mk (And.intro h1 (And.intro h2 (And.intro h3 (And.intro h4 h5)))); clear g1 g2 h1 h2 h3 h4 h5; have q6 : IntKind.i64.wrap (bd.length : Int) = (bd.length : Int) := (IntWalk.i64_in _ (by omega)); have q7 := eq_true (show (0 : Int) ≤ (bd.length : Int) by omega); have q8 := eq_true (show (bd.length : Int) ≤ (c6 : Int) by omega); clear hcap hbd)
  go_end0
  obtain ⟨g1, g2⟩ := FrSt.popped ST6.out R6.out.1 R6.out.2.1 R6.out.2.2.1 R6.out.2.2.2.1 R6.out.2.2.2.2
  exact ⟨rfl, g1, KP0.out.trans (KP6.out.trans g2)⟩
end
end Go.Proofs.YtajefkjcfmfjkaaDoor
namespace Go.Proofs.YtajefkjcfmfjkaaDoor
section
set_option linter.unusedVariables false
set_option linter.unusedSimpArgs false
set_option linter.deprecated false
open Go.RowKit Go.Proofs.YtajefkjcfmfjkaaDoorW.PrintWords Go.Proofs.YtajefkjcfmfjkaaDoor.PRawForms
set_option linter.unusedVariables false
theorem heap_alloc_new2 (w : World) (cs cs' : Array Value) {T T' : Nat} : ((w.alloc (.cells cs T)).alloc (.cells cs' T')).heap[w.heap.size + 1]? = some (.cells cs' T' (0, 0)) := by
  have := heap_alloc_new (w.alloc (.cells cs T)) (.cells cs' T')
  simpa using this
theorem alloc4_old (w : World) (a b c d : Obj) (k : Nat) (h : k < w.heap.size) : ((((w.alloc a).alloc b).alloc c).alloc d).heap[k]? = w.heap[k]? := by
  rw [Below.heap_alloc _ _ _ (by simp; omega), Below.heap_alloc _ _ _ (by simp; omega), Below.heap_alloc _ _ _ (by simp; omega), Below.heap_alloc _ _ _ h]
theorem alloc4_cell (w : World) (a b c d : Obj) {k j : Nat} (h : k < w.heap.size) : ((((w.alloc a).alloc b).alloc c).alloc d).cell? ⟨k, j, none⟩ = w.cell? ⟨k, j, none⟩ := by
  unfold World.cell?
  rw [alloc4_old w a b c d k h]
theorem alloc4_0 (w : World) (a b c d : Obj) : ((((w.alloc a).alloc b).alloc c).alloc d).heap[w.heap.size]? = some a := by
  rw [Below.heap_alloc _ _ _ (by simp; omega), Below.heap_alloc _ _ _ (by simp; omega), Below.heap_alloc _ _ _ (by simp), heap_alloc_new]
theorem alloc4_1 (w : World) (a b c d : Obj) : ((((w.alloc a).alloc b).alloc c).alloc d).heap[w.heap.size + 1]? = some b := by
  rw [Below.heap_alloc _ _ _ (by simp), Below.heap_alloc _ _ _ (by simp)]
  simpa using heap_alloc_new (w.alloc a) b
theorem alloc4_2 (w : World) (a b c d : Obj) : ((((w.alloc a).alloc b).alloc c).alloc d).heap[w.heap.size + 1 + 1]? = some c := by
  rw [Below.heap_alloc _ _ _ (by simp)]
  simpa using heap_alloc_new ((w.alloc a).alloc b) c
theorem alloc4_3 (w : World) (a b c d : Obj) : ((((w.alloc a).alloc b).alloc c).alloc d).heap[w.heap.size + 1 + 1 + 1]? = some d := by
  simpa using heap_alloc_new (((w.alloc a).alloc b).alloc c) d
/-- Format's answer -/
def fmtS (q : List ByteArray) (t : S42) : List UInt8 := if wfS t = 0 then fxT q t else []
set_option maxHeartbeats 4000000 in
set_option maxRecDepth 100000 in
theorem format_any (t : S42) (A : Option Addr) (c : Nat) (qA : Option Addr) (qc : Nat) (ql : List ByteArray) (w : World) (hsz : szT t ≤ 1000000) (hnm : nmT t = true) (hr : Kd.C k42 w A t.f3.length t.f3) (hc : t.f3.length ≤ c) (hq : Kd.C Kd.string w qA ql.length ql) :
    Calls Tryd.prog 35 #[.agg #[.int .i64 t.f0, .string t.f1, .int .i64 t.f2, .slice A t.f3.length c], .slice qA ql.length qc] w fun e w' => e = .returned (.string ⟨(fmtS ql t).toArray⟩) ∧ Below w.heap.size w w' := by
  have HW : Aside0 (∀ W : World, Below w.heap.size w W → Calls Tryd.prog 29 #[.agg #[.int .i64 t.f0, .string t.f1, .int .i64 t.f2, .slice A t.f3.length c]] W fun e w' => e = .returned (.int .i64 (wfS t)) ∧ Below W.heap.size W w') :=
    ⟨fun W hW => wf_any formed_any t A c W hsz hnm (Kd.C_below hr hW) hc⟩
  have hu42 := Tryd.underlying42
  by_cases hw : wfS t = 0
  · have hF : fmtS ql t = fxT ql t := if_pos hw
    have hf : fmT t = true := by
      unfold wfS at hw
      cases hf : fmT t with
      | true => rfl
      | false => rw [hf] at hw; simp at hw
    have HX : Aside0 (∀ (q b cw ct cb : Nat) (W : World), FxSt w q b cw ct cb (.slice qA ql.length qc) [] W → Calls Tryd.prog 68 #[.agg #[.int .i64 t.f0, .string t.f1, .int .i64 t.f2, .slice A t.f3.length c], .pointer (some ⟨q, 0, none⟩), .pointer (some ⟨b, 0, none⟩), .pointer (some ⟨ct, 0, none⟩), .pointer (some ⟨cb, 0, none⟩)] W (FxPost w q b cw ct cb (.slice qA ql.length qc) ([] ++ fxT ql t) W)) :=
      ⟨fun q b cw ct cb W h => write_any w q b cw ct cb qA qc ql hq 100000000 (by omega) 1000000 t hsz hf hnm A c [] W h hr hc (by simp; omega)⟩
    rw [hw] at HW
    rw [hF]
    clear hF hf hw hr hc hq hnm hsz
    go_enter Tryd.func35, Tryd.ntmps35
    go_wp2_with (go_at_call 29; (with_reducible refine (HW.out _ ?b1).mono ?_); (case b1 => exact (by repeat (first | (with_reducible first | exact Below.refl _ _ | apply below_alloc | apply pw_below_drewN | apply below_drew1 | refine below_set ?_ (Nat.le_refl _)) | assumption))); rintro e w1 ⟨rfl, hb⟩; have HB : Aside0 (Below w.heap.size w w1) := ⟨below_step (by repeat (first | (with_reducible first | exact Below.refl _ _ | apply below_alloc | apply pw_below_drewN | apply below_drew1 | refine below_set ?_ (Nat.le_refl _)) | assumption)) hb⟩; have hlt : w.heap.size + 1 < w1.heap.size := (by have := hb.size; simp at this; omega); have hlt0 : w.heap.size < w1.heap.size := (by omega); have HQ : Aside0 (w1.heap[w.heap.size + 1]? = some (.cells #[.slice qA ql.length qc] 38 (0, 0))) := ⟨(hb.block _ (by simp)).trans (heap_alloc_new2 _ _ _)⟩; have m0 := pw_cell_below hb (a := ⟨w.heap.size, 0, none⟩) (v := .int .i64 t.f0) (by go_simp); have m1 := pw_cell_below hb (a := ⟨w.heap.size, 1, none⟩) (v := .string t.f1) (by go_simp); have m2 := pw_cell_below hb (a := ⟨w.heap.size, 2, none⟩) (v := .int .i64 t.f2) (by go_simp); have m3 := pw_cell_below hb (a := ⟨w.heap.size, 3, none⟩) (v := .slice A t.f3.length c) (by go_simp); replace m0 := fun a b c d => (alloc4_cell w1 a b c d hlt0).trans m0; replace m1 := fun a b c d => (alloc4_cell w1 a b c d hlt0).trans m1; replace m2 := fun a b c d => (alloc4_cell w1 a b c d hlt0).trans m2; replace m3 := fun a b c d => (alloc4_cell w1 a b c d hlt0).trans m3; clear hb)
    go_at_call 68
    refine (HX.out (w.heap.size + 1) w1.heap.size (w1.heap.size + 1) (w1.heap.size + 1 + 1) (w1.heap.size + 1 + 1 + 1) _ ?st).mono ?_
    case st =>
      refine ⟨.inl ⟨HB.out.size, .slice none 0 0, ?_, ?_, by simp [Value.ownBlock]⟩, ?_, ?_, ?_, ?_, ?_⟩
      · exact (alloc4_0 _ _ _ _ _)
      · exact ⟨rfl, .inl ⟨rfl, rfl⟩⟩
      · rw [alloc4_old _ _ _ _ _ _ (by omega)]; exact HQ.out
      · exact alloc4_1 _ _ _ _ _
      · exact alloc4_2 _ _ _ _ _
      · exact alloc4_3 _ _ _ _ _
      · exact below_alloc (below_alloc (below_alloc (below_alloc HB.out _) _) _) _
    rintro e w2 ⟨rfl, hs, ho⟩
    have ST := Aside0.mk hs
    clear hs ho m0 m1 m2 m3
    go_wp2_with (go_at_call 70; (with_reducible refine (Tryd.Builder_String_any_k w.heap.size _ _ _ ST.out.bu (below_size ST.out.be)).mono ?_); rintro e w3 ⟨rfl, h1, h2, h3⟩; have HB3 : Aside0 (Below w.heap.size w w3) := ⟨ST.out.be.trans h2⟩; clear h1 h2 h3)
    go_ret
    exact ⟨rfl, HB3.out⟩
  · have hF : fmtS ql t = [] := if_neg hw
    rw [hF]
    have hne : ((wfS t) != 0) = true := by rw [bne_iff_ne]; exact hw
    clear hF hw hr hc hq hnm hsz
    go_enter Tryd.func35, Tryd.ntmps35
    go_wp2_with (go_at_call 29; (with_reducible refine (HW.out _ ?b1).mono ?_); (case b1 => exact (by repeat (first | (with_reducible first | exact Below.refl _ _ | apply below_alloc | apply pw_below_drewN | apply below_drew1 | refine below_set ?_ (Nat.le_refl _)) | assumption))); rintro e w1 ⟨rfl, hb⟩; have HB : Aside0 (Below w.heap.size w w1) := ⟨below_step (by repeat (first | (with_reducible first | exact Below.refl _ _ | apply below_alloc | apply pw_below_drewN | apply below_drew1 | refine below_set ?_ (Nat.le_refl _)) | assumption)) hb⟩; clear hb)
    go_ret
    exact ⟨rfl, HB.out⟩
end
end Go.Proofs.YtajefkjcfmfjkaaDoor
namespace Go.Proofs.YtajefkjcfmfjkaaDoor
section
set_option linter.unusedVariables false
set_option linter.unusedSimpArgs false
set_option linter.deprecated false
open Go.RowKit Go.Proofs.YtajefkjcfmfjkaaDoorW.PrintWords Go.Proofs.YtajefkjcfmfjkaaDoor.PRawForms
set_option linter.unusedVariables false
theorem outJ_len (l : List S42) : ∀ (bd out : List ByteArray) (j : Nat), j < l.length → (outJ bd out l j).length + szT (rd_T42 l (j : Int)) ≤ out.length + szL l := by
  induction l with
  | nil => intro bd out j h; simp at h
  | cons x xs ih =>
    intro bd out j h
    rw [szL]
    cases j with
    | zero => rw [outJ_zero, rdT_get h]; simp only [List.getElem_cons_zero]; omega
    | succ j =>
      have h' : j < xs.length := by simpa using h
      have e1 : outJ bd out (x :: xs) (j + 1) = outJ bd (frT x bd out) xs j := by simp [outJ, frL]
      have e2 : rd_T42 (x :: xs) ((j + 1 : Nat) : Int) = rd_T42 xs (j : Int) := by rw [rdT_get h, rdT_get h']; rfl
      rw [e1, e2]
      have := ih bd (frT x bd out) j h'
      have := frT_len (szT x) x (Nat.le_refl _) bd out
      omega
theorem fwalk_any (w0 : World) (bo bb bs ba bw bm : Nat) (N : Nat) (hN : N ≤ 10000000) (i : Nat) :
    ∀ t : S42, szT t ≤ i → fmT t = true → nmT t = true → szT t ≤ 1000000 → FrC w0 bo bb bs ba bw bm N t := by
  induction i with
  | zero => intro t h; have := szT_pos t; omega
  | succ i ih =>
    intro t hsz hf hn hM bd out A c W hs hr hc hb1 hb2
    rw [szT_eq] at hsz hb1 hb2 hM
    rw [fmT_eq, Bool.and_eq_true] at hf
    rw [nmT_eq, Bool.and_eq_true, decide_eq_true_eq] at hn
    obtain ⟨hf1, hf2⟩ := hf
    obtain ⟨hn1, hn2⟩ := hn
    have hx : ∀ x ∈ t.f3, FrC w0 bo bb bs ba bw bm N x := by
      intro x hx
      rw [fmL_all] at hf2
      rw [nmL_all] at hn2
      have := szL_mem hx
      exact ih x (by omega) (List.all_eq_true.1 hf2 x hx) (List.all_eq_true.1 hn2 x hx) (by omega)
    have hlen := form_len _ _ _ hf1
    have hll := szL_len t.f3
    have hxj : ∀ j, j < t.f3.length → FrC w0 bo bb bs ba bw bm N (rd_T42 t.f3 (j : Int)) := fun j hj => hx _ (rdT_mem hj)
    have hj1 : ∀ j, j < t.f3.length → bd.length + szT (rd_T42 t.f3 (j : Int)) ≤ N := fun j hj => by have := szL_mem (rdT_mem hj); omega
    have hj2 : ∀ j, j < t.f3.length → (outJ bd out t.f3 j).length + szT (rd_T42 t.f3 (j : Int)) ≤ N := fun j hj => by have := outJ_len t.f3 bd out j hj; omega
    have hpost := outJ_all bd out t.f3
    have hbd : bd.length ≤ 100000000 := by omega
    have ho : out.length ≤ 100000000 := by omega
    have hl6 : t.f3.length ≤ 1000000 := by omega
    rw [frT_eq]
    clear ih hf1 hf2 hn2
    obtain ⟨k, n, o, args⟩ := t
    simp only at *
    rcases hlen with (rfl | rfl | rfl | rfl) | ⟨rfl | rfl | rfl, hm⟩ | ⟨hk, hm⟩
    · cases hi : inQ bd n with
      | true =>
        have e : nodeF 1 n (frL args) bd out = out := by unfold nodeF; rw [if_pos rfl, hi, if_pos rfl]
        rw [e]
        exact fwalk1t w0 bo bb bs ba bw bm bd out n o A _ c W hs hn1 ho hbd hi
      | false =>
        have e : nodeF 1 n (frL args) bd out = addN out n := by unfold nodeF; rw [if_pos rfl, hi, if_neg (by simp)]
        rw [e]
        exact fwalk1f w0 bo bb bs ba bw bm bd out n o A _ c W hs hn1 ho hbd hi
    · exact fwalk2 w0 bo bb bs ba bw bm bd out n o A _ c W hs hn1 ho hbd
    · exact fwalk3 w0 bo bb bs ba bw bm N bd out n o args A c W hs hr hl6 hxj hj1 hj2 _ hpost
    · exact fwalk4 w0 bo bb bs ba bw bm N bd out n o args A c W hs hr hl6 hxj hj1 hj2 _ hpost
    · exact fwalk5 w0 bo bb bs ba bw bm N bd out n o args A c W hs hr hl6 hxj hj1 hj2 _ hpost
    · exact fwalk6 w0 bo bb bs ba bw bm N bd out n o args A c W hs hr hl6 hxj hj1 hj2 _ hpost
    · exact fwalk9 w0 bo bb bs ba bw bm N bd out n o args A c W hs hr hl6 hxj hj1 hj2 _ hpost
    · have e : nodeF k n (frL args) bd out = bindF (fun b => b ++ [n]) (frL args) bd out := by
        unfold nodeF; rw [if_neg (by omega), if_neg (by omega), if_pos hk]
      rw [e]
      rcases hm with hm | hm
      · match args, hm, hr, hx, hb1, hb2, hc with
        | [y], _, hr, hx, hb1, hb2, hc =>
          rw [szL, szL] at hb1 hb2
          have hy := hx y (by simp)
          rcases hk with rfl | rfl
          · exact fbind71 w0 bo bb bs ba bw bm N bd out n o y A c W hs hr hy (by simp; omega) (by omega) hbd
          · exact fbind81 w0 bo bb bs ba bw bm N bd out n o y A c W hs hr hy (by simp; omega) (by omega) hbd
      · match args, hm, hr, hx, hb1, hb2, hc with
        | [x, y], _, hr, hx, hb1, hb2, hc =>
          rw [szL, szL, szL] at hb1 hb2
          have hX := hx x (by simp)
          have hy := hx y (by simp)
          have hlx := frT_len (szT x) x (Nat.le_refl _) bd out
          have hpy := szT_pos x
          rcases hk with rfl | rfl
          · exact fbind72 w0 bo bb bs ba bw bm N bd out n o x y A c W hs hr hX (by omega) (by omega) hy (by simp; omega) (by omega) hbd
          · exact fbind82 w0 bo bb bs ba bw bm N bd out n o x y A c W hs hr hX (by omega) (by omega) hy (by simp; omega) (by omega) hbd
theorem al_old (w : World) (a : Obj) {k : Nat} (h : k < w.heap.size) : (w.alloc a).heap[k]? = w.heap[k]? := Below.heap_alloc w a k h
theorem al_new (w : World) (a : Obj) {k : Nat} (h : k = w.heap.size) : (w.alloc a).heap[k]? = some a := by subst h; exact heap_alloc_new _ _
section
variable (w : World) (a b c d e f : Obj)
theorem alloc6_old (k : Nat) (h : k < w.heap.size) : ((((((w.alloc a).alloc b).alloc c).alloc d).alloc e).alloc f).heap[k]? = w.heap[k]? := by
  rw [al_old _ _ (by simp; omega), al_old _ _ (by simp; omega), alloc4_old w a b c d k h]
theorem alloc6_cell {k j : Nat} (h : k < w.heap.size) : ((((((w.alloc a).alloc b).alloc c).alloc d).alloc e).alloc f).cell? ⟨k, j, none⟩ = w.cell? ⟨k, j, none⟩ := by
  unfold World.cell?
  rw [alloc6_old w a b c d e f k h]
end
set_option maxHeartbeats 4000000 in
set_option maxRecDepth 100000 in
theorem free_any (t : S42) (A : Option Addr) (c : Nat) (w : World) (hsz : szT t ≤ 1000000) (hnm : nmT t = true) (hr : Kd.C k42 w A t.f3.length t.f3) (hc : t.f3.length ≤ c) :
    Calls Tryd.prog 38 #[.agg #[.int .i64 t.f0, .string t.f1, .int .i64 t.f2, .slice A t.f3.length c]] w fun e w' => ∃ A2 c2, e = .returned (.slice A2 (freeT t).length c2) ∧ Kd.C Kd.string w' A2 (freeT t).length (freeT t) ∧ Below w.heap.size w w' := by
  have HW : Aside0 (∀ W : World, Below w.heap.size w W → Calls Tryd.prog 29 #[.agg #[.int .i64 t.f0, .string t.f1, .int .i64 t.f2, .slice A t.f3.length c]] W fun e w' => e = .returned (.int .i64 (wfS t)) ∧ Below W.heap.size W w') :=
    ⟨fun W hW => wf_any formed_any t A c W hsz hnm (Kd.C_below hr hW) hc⟩
  have hu42 := Tryd.underlying42
  by_cases hw : wfS t = 0
  · have hF : freeT t = frT t [] [] := if_pos hw
    have hf : fmT t = true := by
      unfold wfS at hw
      cases hf : fmT t with
      | true => rfl
      | false => rw [hf] at hw; simp at hw
    have HX : Aside0 (∀ (bo bb bs ba bw bm : Nat) (W : World), FrSt w bo bb bs ba bw bm [] [] W → Calls Tryd.prog 73 #[.agg #[.int .i64 t.f0, .string t.f1, .int .i64 t.f2, .slice A t.f3.length c], .pointer (some ⟨bb, 0, none⟩), .pointer (some ⟨ba, 0, none⟩), .pointer (some ⟨bw, 0, none⟩)] W (FrPost w bo bb bs ba bw bm [] (frT t [] []) W)) :=
      ⟨fun bo bb bs ba bw bm W h => fwalk_any w bo bb bs ba bw bm 10000000 (by omega) 1000000 t hsz hf hnm hsz [] [] A c W h hr hc (by simp; omega) (by simp; omega)⟩
    have hmm := @run_makeMap Tryd.prog
    rw [hw] at HW
    rw [hF]
    generalize frT t [] [] = R at *
    clear hF hf hw hr hc hnm hsz
    go_enter Tryd.func38, Tryd.ntmps38
    go_wp2_with (go_at_call 29; (with_reducible refine (HW.out _ ?b1).mono ?_); (case b1 => exact (by repeat (first | (with_reducible first | exact Below.refl _ _ | apply below_alloc | apply pw_below_drewN | apply below_drew1 | refine below_set ?_ (Nat.le_refl _)) | assumption))); rintro e w1 ⟨rfl, hb⟩; have HB : Aside0 (Below w.heap.size w w1) := ⟨below_step (by repeat (first | (with_reducible first | exact Below.refl _ _ | apply below_alloc | apply pw_below_drewN | apply below_drew1 | refine below_set ?_ (Nat.le_refl _)) | assumption)) hb⟩; have hlt : w.heap.size < w1.heap.size := (by have := hb.size; simp at this; omega); have m0 := pw_cell_below hb (a := ⟨w.heap.size, 0, none⟩) (v := .int .i64 t.f0) (by go_simp); have m1 := pw_cell_below hb (a := ⟨w.heap.size, 1, none⟩) (v := .string t.f1) (by go_simp); have m2 := pw_cell_below hb (a := ⟨w.heap.size, 2, none⟩) (v := .int .i64 t.f2) (by go_simp); have m3 := pw_cell_below hb (a := ⟨w.heap.size, 3, none⟩) (v := .slice A t.f3.length c) (by go_simp); replace m0 := fun a b c d e f => (alloc6_cell w1 a b c d e f hlt).trans m0; replace m1 := fun a b c d e f => (alloc6_cell w1 a b c d e f hlt).trans m1; replace m2 := fun a b c d e f => (alloc6_cell w1 a b c d e f hlt).trans m2; replace m3 := fun a b c d e f => (alloc6_cell w1 a b c d e f hlt).trans m3; clear hb)
    go_at_call 73
    refine (HX.out w1.heap.size (w1.heap.size + 1) (w1.heap.size + 1 + 1 + 1) (w1.heap.size + 1 + 1 + 1 + 1) (w1.heap.size + 1 + 1 + 1 + 1 + 1) (w1.heap.size + 1 + 1) _ ?st).mono ?_
    case st =>
      have hs0 := HB.out.size
      refine ⟨below_alloc (below_alloc (below_alloc (below_alloc (below_alloc (below_alloc HB.out _) _) _) _) _) _, ⟨hs0, by omega, by omega, by omega⟩, ⟨.map [], ?_, SeenOk.nil⟩, ⟨.slice none 0 0, .slice none 0 0, ?_, ?_, ⟨rfl, .inl ⟨rfl, rfl⟩⟩, ⟨rfl, .inl ⟨rfl, rfl⟩⟩, by intro k h; cases h⟩, ?_, ?_, ?_⟩
      · have hm0 := World.ownsMap_made ((w1.alloc (.cells #[.slice none 0 0] 38)).alloc (.cells #[.slice none 0 0] 38)) Tryd.prog 9 (plainElem (H := Unit) Tryd.prog 4)
        rw [show ((w1.alloc (.cells #[.slice none 0 0] 38)).alloc (.cells #[.slice none 0 0] 38)).heap.size = w1.heap.size + 1 + 1 by simp] at hm0
        exact ((hm0.alloc _).alloc _).alloc _
      · rw [al_old _ _ (by simp; omega), al_old _ _ (by simp; omega)]; exact alloc4_0 _ _ _ _ _
      · rw [al_old _ _ (by simp), al_old _ _ (by simp)]; exact alloc4_1 _ _ _ _ _
      · rw [al_old _ _ (by simp), al_old _ _ (by simp)]; exact alloc4_3 _ _ _ _ _
      · rw [al_old _ _ (by simp), al_new _ _ (by simp)]
      · exact al_new _ _ (by simp)
    rintro e w2 ⟨rfl, hs, ho⟩
    obtain ⟨vo, vb, h1, h2, h3, h4, h5⟩ := hs.rows
    obtain ⟨A2, c2, rfl, hrd⟩ := own_reads_of (enc := Value.string) (d := ByteArray.empty) h3
    have HC : Aside0 (Kd.C Kd.string w2 A2 R.length R) := ⟨Kd.C_of_reads hrd⟩
    have HB2 := Aside0.mk hs.be
    have mo : w2.cell? ⟨w1.heap.size, 0, none⟩ = some (.slice A2 R.length c2) := (blk_cell h1 0).trans rfl
    have hlo := World.block_lt_of_cell? w2 _ mo
    clear hs ho h1 h2 h3 h4 h5 hrd m0 m1 m2 m3 HX HW
    go_wp2
    go_ret
    exact ⟨A2, c2, rfl, HC.out, HB2.out⟩
  · have hF : freeT t = [] := if_neg hw
    rw [hF]
    have hne : ((wfS t) != 0) = true := by rw [bne_iff_ne]; exact hw
    clear hF hw hr hc hnm hsz
    go_enter Tryd.func38, Tryd.ntmps38
    go_wp2_with (go_at_call 29; (with_reducible refine (HW.out _ ?b1).mono ?_); (case b1 => exact (by repeat (first | (with_reducible first | exact Below.refl _ _ | apply below_alloc | apply pw_below_drewN | apply below_drew1 | refine below_set ?_ (Nat.le_refl _)) | assumption))); rintro e w1 ⟨rfl, hb⟩; have HB : Aside0 (Below w.heap.size w w1) := ⟨below_step (by repeat (first | (with_reducible first | exact Below.refl _ _ | apply below_alloc | apply pw_below_drewN | apply below_drew1 | refine below_set ?_ (Nat.le_refl _)) | assumption)) hb⟩; clear hb)
    go_ret
    exact ⟨none, 0, rfl, Kd.C_nil _ _, HB.out⟩
end
end Go.Proofs.YtajefkjcfmfjkaaDoor
namespace Go.Proofs.YtajefkjcfmfjkaaDoor
section
set_option linter.unusedVariables false
set_option linter.unusedSimpArgs false
set_option linter.deprecated false
open Go.RowKit Go.Proofs.YtajefkjcfmfjkaaDoorW.PrintWords Go.Proofs.YtajefkjcfmfjkaaDoor.PRawForms
set_option linter.unusedVariables false
/-- a literal's bytes lie in block B -/
def LitC (W : World) (B : Nat) (ys : List UInt8) : Prop := ∀ j u, (Lib.byteCells ys)[j]? = some u → W.cell? ⟨B, j, none⟩ = some u
/-- .. and B is none of v's -/
def LitAt (W : World) (B : Nat) (ys : List UInt8) (v : Value) : Prop := B < W.heap.size ∧ some B ≠ v.ownBlock ∧ LitC W B ys
/-- v is a row of the call's own that holds l -/
structure RfSt (w0 : World) (v : Value) (l : List UInt8) (W : World) : Prop where
  row : W.ownsRow w0.heap.size 5 1 v l.length (Lib.byteCells l)
  be : Below w0.heap.size w0 W
section
variable {w0 W W' : World} {v v1 : Value} {l : List UInt8} {B : Nat} {ys : List UInt8}
theorem RfSt.alloc (h : RfSt w0 v l W) (o : Obj) : RfSt w0 v l (W.alloc o) := ⟨h.row.alloc o, below_alloc h.be o⟩
theorem RfSt.drew (h : RfSt w0 v l W) : RfSt w0 v l W.drew := ⟨h.row, below_drew h.be⟩
theorem RfSt.nil (w0 : World) (h : Below w0.heap.size w0 W) : RfSt w0 (.slice none 0 0) [] W := ⟨⟨rfl, .inl ⟨rfl, rfl⟩⟩, h⟩
theorem RfSt.below (h : RfSt w0 v l W) (hb : Below W.heap.size W W') : RfSt w0 v l W' := ⟨pw_own_below h.row hb, below_step h.be hb⟩
theorem LitAt.alloc (h : LitAt W B ys v) (o : Obj) : LitAt (W.alloc o) B ys v :=
  ⟨by have := h.1; simp; omega, h.2.1, fun j u hu => pw_cell_below (below_alloc (Below.refl _ W) o) (h.2.2 j u hu)⟩
theorem lit_cell (W : World) (B : Nat) {fr : Nat × Nat} (h : W.heap[B]? = some (.cells (Lib.byteCells ys).toArray 5 fr)) : LitC W B ys := by
  intro j u hu
  unfold World.cell?
  rw [h]
  simpa using hu
theorem lit_new (h : RfSt w0 v l W) (ys : List UInt8) : LitAt (W.alloc (.cells (Lib.byteCells ys).toArray 5)) W.heap.size ys v :=
  ⟨by simp, fun e => by have := own_lt h.row _ e.symm; omega, lit_cell _ _ (heap_alloc_new _ _)⟩
theorem rf_kept (h : RfSt w0 v l W) (hg : W.grownBy W' v.ownBlock) : Lib.OthersKept 5 none W W' :=
  (Lib.OthersKept.refl _ _ W).grown hg (fun g hgb => by obtain ⟨c, hc⟩ := own_typed h.row g hgb; exact ⟨c, _, hc⟩)
theorem lit_kept (hg : W.grownBy W' v.ownBlock) (h : LitAt W B ys v) : LitC W' B ys := by
  intro j u hu
  have hb := hg.block B h.1 h.2.1
  have := h.2.2 j u hu
  unfold World.cell? at this ⊢
  rwa [hb]
theorem rf_lit_run (ty : Nat) (H : RfSt w0 v l W) (k c : Nat) (hk : ys.length = k) (HL : LitC W B ys) (hl : l.length + k ≤ 100000000000) :
    ∃ v1 w1, (Builtin.append_ #[37, 37] ty #[v, .slice (some ⟨B, 0, none⟩) k c]).run Tryd.prog W = .ok v1 w1 ∧ RfSt w0 v1 (l ++ ys) w1 ∧ Lib.OthersKept 5 none W w1 ∧ (∀ B' ys', LitAt W B' ys' v → LitAt w1 B' ys' v1) := by
  obtain ⟨i0, hi, hz0, hz1, hz2⟩ := info_parts infoU8
  obtain ⟨v1, w1, hr, hown, hg, _, hat⟩ := run_append_own_at (P := Tryd.prog) W w0.heap.size 37 ty 5 i0 (.int .u8 0) 1 1 Tryd.underlying37 hi hz0 hz1 hz2 rfl (by decide) v l.length (Lib.byteCells l) H.row ⟨B, 0, none⟩ k c (Lib.byteCells ys)
    (by rw [Lib.byteCells_length, hk, Nat.mul_one]) (fun j u hu => by rw [Addr.add_plain2, Nat.zero_add]; exact HL j u hu) (fun u hu => by simp only [Lib.byteCells, List.mem_map] at hu; obtain ⟨x, _, rfl⟩ := hu; rfl) (by simp only [maxLen]; omega) (by omega) (below_size H.be)
  refine ⟨v1, w1, hr, ⟨?_, H.be.grown hg (below_size H.be) (own_base H.row)⟩, rf_kept H hg, ?_⟩
  · rw [Lib.byteCells_append, List.length_append, hk]; exact hown
  · intro B' ys' h
    refine ⟨Nat.lt_of_lt_of_le h.1 hg.size, ?_, lit_kept hg h⟩
    rcases hat with hat | hat
    · rw [hat]; exact h.2.1
    · rw [hat]; intro e; injection e with e; have := h.1; omega
theorem rf_str_run (ty : Nat) (H : RfSt w0 v l W) (y : ByteArray) (hl : l.length + y.size ≤ 100000000000) :
    ∃ v1 w1, (Builtin.append_ #[37, 9] ty #[v, .string y]).run Tryd.prog W = .ok v1 w1 ∧ RfSt w0 v1 (l ++ y.data.toList) w1 ∧ Lib.OthersKept 5 none W w1 ∧ (∀ B' ys', LitAt W B' ys' v → LitC w1 B' ys') := by
  obtain ⟨i0, hi, hz0, hz1, hz2⟩ := info_parts infoU8
  obtain ⟨v1, w1, hr, hown, hg, _⟩ := Lib.run_append_own_string (P := Tryd.prog) W w0.heap.size 37 9 ty 5 i0 Tryd.underlying37 Tryd.underlying9 hi hz0 hz1 hz2 v l.length (Lib.byteCells l) H.row y (by simp only [maxLen]; omega) (by omega) (below_size H.be)
  refine ⟨v1, w1, hr, ⟨?_, H.be.grown hg (below_size H.be) (own_base H.row)⟩, rf_kept H hg, fun B' ys' h => lit_kept hg h⟩
  rw [Lib.byteCells_append, List.length_append, len_data, ← Lib.strCells_eq]; exact hown
end
section
variable {ops : Array Oper} {rest : List Oper} {o : Oper} {a : Act} {Q : Exit → Act → World → Prop} {K : Act → World → Prop} {w0 W : World} {v : Value} {l : List UInt8} {B : Nat}
/-- append of a literal, as one operation of the walk -/
theorem rf_lit (hgd : o.guard = none) (s x : Operand) (ho : o.op = .call { callee := .builtin .append, args := #[s, x], argTypes := #[37, 37] }) (ys : List UInt8) (k c : Nat) (hs : a.eval s = v) (hx : a.eval x = .slice (some ⟨B, 0, none⟩) k c) (hk : ys.length = k)
    (H : RfSt w0 v l W) (HL : LitC W B ys) (hl : l.length + k ≤ 100000000000)
    (h : ∀ v1 w1, RfSt w0 v1 (l ++ ys) w1 → Lib.OthersKept 5 none W w1 → wpList Tryd.prog ops Q rest (a.put o.dst v1) w1) : wpList Tryd.prog ops Q (o :: rest) a W := by
  refine wpList_plain hgd fun K' hK' => ?_
  obtain ⟨v1, w1, hr, h1, h2, h3⟩ := rf_lit_run o.type H k c hk HL hl
  unfold Oper.wp execOp
  simp only [ho, resolve, invoke, builtin, Sem.run_bind, Sem.run_pure, Result.andThen_ok, List.map_toArray, List.map_cons, List.map_nil, hs, hx, hr]
  exact hK' _ _ (h v1 w1 h1 h2)
theorem rf_str (hgd : o.guard = none) (s x : Operand) (ho : o.op = .call { callee := .builtin .append, args := #[s, x], argTypes := #[37, 9] }) (y : ByteArray) (hs : a.eval s = v) (hx : a.eval x = .string y)
    (H : RfSt w0 v l W) (hl : l.length + y.size ≤ 100000000000)
    (h : ∀ v1 w1, RfSt w0 v1 (l ++ y.data.toList) w1 → Lib.OthersKept 5 none W w1 → wpList Tryd.prog ops Q rest (a.put o.dst v1) w1) : wpList Tryd.prog ops Q (o :: rest) a W := by
  refine wpList_plain hgd fun K' hK' => ?_
  obtain ⟨v1, w1, hr, h1, h2, h3⟩ := rf_str_run o.type H y hl
  unfold Oper.wp execOp
  simp only [ho, resolve, invoke, builtin, Sem.run_bind, Sem.run_pure, Result.andThen_ok, List.map_toArray, List.map_cons, List.map_nil, hs, hx, hr]
  exact hK' _ _ (h v1 w1 h1 h2)
/-- .. in a region that draws its order -/
theorem rfs_lit (hw : Region.wanted o (yielded ops a.tmps) = true) (s x : Operand) (ho : o.op = .call { callee := .builtin .append, args := #[s, x], argTypes := #[37, 37] }) (ys : List UInt8) (k c : Nat) (hs : a.eval s = v) (hx : a.eval x = .slice (some ⟨B, 0, none⟩) k c) (hk : ys.length = k)
    (H : RfSt w0 v l W) (HL : LitC W B ys) (hl : l.length + k ≤ 100000000000)
    (h : ∀ v1 w1, RfSt w0 v1 (l ++ ys) w1 → Lib.OthersKept 5 none W w1 → (∀ B' ys', LitAt W B' ys' v → LitAt w1 B' ys' v1) → K (a.put o.dst v1) w1) : if Region.wanted o (yielded ops a.tmps) = true then Oper.wp Tryd.prog o a W K Q else K (a.put o.dst undef) W := by
  obtain ⟨v1, w1, hr, h1, h2, h3⟩ := rf_lit_run o.type H k c hk HL hl
  rw [if_pos hw]
  unfold Oper.wp execOp
  simp only [ho, resolve, invoke, builtin, Sem.run_bind, Sem.run_pure, Result.andThen_ok, List.map_toArray, List.map_cons, List.map_nil, hs, hx, hr]
  exact h v1 w1 h1 h2 h3
theorem rfs_str (hw : Region.wanted o (yielded ops a.tmps) = true) (s x : Operand) (ho : o.op = .call { callee := .builtin .append, args := #[s, x], argTypes := #[37, 9] }) (y : ByteArray) (hs : a.eval s = v) (hx : a.eval x = .string y)
    (H : RfSt w0 v l W) (hl : l.length + y.size ≤ 100000000000)
    (h : ∀ v1 w1, RfSt w0 v1 (l ++ y.data.toList) w1 → Lib.OthersKept 5 none W w1 → (∀ B' ys', LitAt W B' ys' v → LitC w1 B' ys') → K (a.put o.dst v1) w1) : if Region.wanted o (yielded ops a.tmps) = true then Oper.wp Tryd.prog o a W K Q else K (a.put o.dst undef) W := by
  obtain ⟨v1, w1, hr, h1, h2, h3⟩ := rf_str_run o.type H y hl
  rw [if_pos hw]
  unfold Oper.wp execOp
  simp only [ho, resolve, invoke, builtin, Sem.run_bind, Sem.run_pure, Result.andThen_ok, List.map_toArray, List.map_cons, List.map_nil, hs, hx, hr]
  exact h v1 w1 h1 h2 h3
end
theorem ok_none {W W' : World} (ho : Lib.OthersKept 5 none W W') {k T : Nat} {cs : Array Value} (hk : W.heap[k]? = some (.cells cs T (0, 0))) (h5 : T ≠ 5) : W'.heap[k]? = some (.cells cs T (0, 0)) :=
  ho k _ hk (by simp) (fun c fz e => by injection e with _ e; exact h5 e)
theorem ok_none_cell {W W' : World} (ho : Lib.OthersKept 5 none W W') {k T j : Nat} {cs : Array Value} (hk : W.heap[k]? = some (.cells cs T (0, 0))) (h5 : T ≠ 5) : W'.cell? ⟨k, j, none⟩ = cs[j]? := blk_cell (ok_none ho hk h5) j
def RfPost (w0 : World) (l : List UInt8) (W : World) (e : Ending) (w' : World) : Prop := ∃ v', e = .returned v' ∧ RfSt w0 v' l w' ∧ Lib.OthersKept 5 none W w'
/-- what the reference's 'format' does at a tree -/
def RfC (w0 : World) (qA : Option Addr) (qc : Nat) (ql : List ByteArray) (N : Nat) (x : S42) : Prop :=
  ∀ (A : Option Addr) (c : Nat) (l : List UInt8) (v : Value) (W : World), RfSt w0 v l W → Kd.C k42 w0 A x.f3.length x.f3 → x.f3.length ≤ c → l.length + 80 * szT x ≤ N →
    Calls Tryd.prog 71 #[v, .agg #[.int .i64 x.f0, .string x.f1, .int .i64 x.f2, .slice A x.f3.length c], .slice qA ql.length qc] W (RfPost w0 (l ++ fxT ql x) W)
/-- what the loads of a region ask of a world: a cell of the box, an element -/
def SAt (g : Nat) (s : Value) (a : Addr) (k n o : Value) (s' : Value) (W : World) : Prop :=
  W.cell? ⟨g, 3, none⟩ = some s ∧ W.cell? a = some k ∧ W.cell? ⟨a.block, a.off + 1, none⟩ = some n ∧ W.cell? ⟨a.block, a.off + 2, none⟩ = some o ∧ W.cell? ⟨a.block, a.off + 3, none⟩ = some s'
theorem keepS {w0 Wb W : World} {v : Value} {l : List UInt8} {g : Nat} {c0 c1 c2 s k n o s' : Value} {a : Addr} (R : RfSt w0 v l W) (ok : Lib.OthersKept 5 none Wb W) (bx : Wb.heap[g]? = some (.cells #[c0, c1, c2, s] 42 (0, 0)))
    (e : w0.cell? a = some k ∧ w0.cell? ⟨a.block, a.off + 1, none⟩ = some n ∧ w0.cell? ⟨a.block, a.off + 2, none⟩ = some o ∧ w0.cell? ⟨a.block, a.off + 3, none⟩ = some s') : SAt g s a k n o s' W :=
  ⟨(ok_none_cell ok bx (by decide)).trans rfl, pw_cell_below R.be e.1, pw_cell_below R.be e.2.1, pw_cell_below R.be e.2.2.1, pw_cell_below R.be e.2.2.2⟩
theorem lit1 (W : World) (b : UInt8) (B : Nat) (hB : B = W.heap.size) : LitC (W.alloc (.cells #[.int .u8 (b.toNat : Int)] 5)) B [b] := by
  subst hB
  exact lit_cell _ _ (heap_alloc_new _ _)
theorem lit2 (W : World) (b c : UInt8) (B : Nat) (hB : B = W.heap.size) : LitC (W.alloc (.cells #[.int .u8 (b.toNat : Int), .int .u8 (c.toNat : Int)] 5)) B [b, c] := by
  subst hB
  exact lit_cell _ _ (heap_alloc_new _ _)
theorem LitC.drew {W : World} {B : Nat} {ys : List UInt8} (h : LitC W B ys) : LitC W.drew B ys := h
set_option maxHeartbeats 4000000 in
set_option maxRecDepth 100000 in
theorem rtwo_any (w0 : World) (qA : Option Addr) (qc : Nat) (ql : List ByteArray) (N : Nat) (hN : N ≤ 100000000) (k : Int) (n : ByteArray) (o : Int) (x y : S42) (A : Option Addr) (c : Nat) (mid : ByteArray) (l : List UInt8) (v : Value) (W : World)
    (hs : RfSt w0 v l W) (hr : Kd.C k42 w0 A 2 [x, y]) (hx : RfC w0 qA qc ql N x) (hy : RfC w0 qA qc ql N y)
    (hmid : mid.size ≤ 64) (hN1 : l.length + 1 + 80 * szT x + mid.size + 80 * szT y ≤ N) (hlx : (fxT ql x).length ≤ 80 * szT x) (hly : (fxT ql y).length ≤ 80 * szT y) :
    Calls Tryd.prog 96 #[v, .agg #[.int .i64 k, .string n, .int .i64 o, .slice A 2 c], .slice qA ql.length qc, .string mid] W
      (RfPost w0 (l ++ twoS [40] mid.data.toList [41] [fxT ql x, fxT ql y]) W) := by
  have RS0 := Aside0.mk (hs.alloc (.cells #[.int .i64 k, .string n, .int .i64 o, .slice A 2 c] 42))
  have BX0 : Aside0 ((W.alloc (.cells #[.int .i64 k, .string n, .int .i64 o, .slice A 2 c] 42)).heap[W.heap.size]? = some (.cells #[.int .i64 k, .string n, .int .i64 o, .slice A 2 c] 42 (0, 0))) := ⟨heap_alloc_new _ _⟩
  have OK0 : Aside0 (Lib.OthersKept 5 none W (W.alloc (.cells #[.int .i64 k, .string n, .int .i64 o, .slice A 2 c] 42))) := ⟨(Lib.OthersKept.refl _ _ W).alloc _⟩
  have lmid : mid.data.toList.length = mid.size := len_data mid
  obtain ⟨ad, A0, c0, hA, e0, e1, e2, e3, hc0, hC0⟩ := atn42 hr 0 (by omega)
  obtain ⟨ad', A1, c1, hA', f0, f1, f2, f3, hc1, hC1⟩ := atn42 hr 1 (by omega)
  subst hA
  obtain rfl := Option.some.inj hA'
  rw [show rd_T42 [x, y] ((0 : Nat) : Int) = x from rfl] at e0 e1 e2 e3 hc0 hC0
  rw [show ad.add (0 * 4) = ad from Addr.add_zero42 ad] at e0 e1 e2 e3
  rw [show rd_T42 [x, y] ((1 : Nat) : Int) = y from rfl] at f0 f1 f2 f3 hc1 hC1
  rw [Addr.add_one42 ad] at f0 f1 f2 f3
  simp only at f1 f2 f3
  have E0 := Aside0.mk (And.intro e0 (And.intro e1 (And.intro e2 e3)))
  have F0 := Aside0.mk (And.intro f0 (And.intro f1 (And.intro f2 f3)))
  have C0 := Aside0.mk (And.intro hc0 hC0)
  have C1 := Aside0.mk (And.intro hc1 hC1)
  have HL0 : Aside0 (l.length + 1 ≤ 100000000000) := ⟨by omega⟩
  have HL1 : Aside0 ((l ++ [40]).length + 80 * szT x ≤ N) := ⟨by rw [List.length_append]; simp only [List.length_cons, List.length_nil]; omega⟩
  have HL2 : Aside0 ((l ++ [40] ++ fxT ql x).length + mid.size ≤ 100000000000) := ⟨by rw [List.length_append, List.length_append]; simp only [List.length_cons, List.length_nil]; omega⟩
  have HL3 : Aside0 ((l ++ [40] ++ fxT ql x ++ mid.data.toList).length + 80 * szT y ≤ N) := ⟨by rw [List.length_append, List.length_append, List.length_append, lmid]; simp only [List.length_cons, List.length_nil]; omega⟩
  have HL4 : Aside0 ((l ++ [40] ++ fxT ql x ++ mid.data.toList ++ fxT ql y).length + 1 ≤ 100000000000) := ⟨by rw [List.length_append, List.length_append, List.length_append, List.length_append, lmid]; simp only [List.length_cons, List.length_nil]; omega⟩
  have HE : Aside0 (l ++ twoS [40] mid.data.toList [41] [fxT ql x, fxT ql y] = l ++ [40] ++ fxT ql x ++ mid.data.toList ++ fxT ql y ++ [41]) := ⟨by simp [twoS]⟩
  have HX := Aside0.mk hx
  have HY := Aside0.mk hy
  have hu42 := Tryd.underlying42
  clear e0 e1 e2 e3 f0 f1 f2 f3 hc0 hC0 hc1 hC1 hs hr hx hy hmid hN1 hlx hly lmid hN
  go_enter Tryd.func96, Tryd.ntmps96
  go_wp2_with fail
  have RSd := Aside0.mk RS0.out.drew
  have OKb := Aside0.mk (Lib.OthersKept.refl 5 none (W.alloc (.cells #[.int .i64 k, .string n, .int .i64 o, .slice (some ad) 2 c] 42)))
  have L1 : Aside0 (LitC ((W.alloc (.cells #[.int .i64 k, .string n, .int .i64 o, .slice (some ad) 2 c] 42)).alloc (.cells #[.int .u8 40] 5)) (W.heap.size + 1) [40]) := ⟨lit1 _ 40 _ (by simp)⟩
  go_region_held2 (fun W' => W'.cell? ⟨W.heap.size, 3, none⟩ = some (.slice (some ad) 2 c) ∧ W'.cell? ad = some (.int .i64 x.f0) ∧ W'.cell? ⟨ad.block, ad.off + 1, none⟩ = some (.string x.f1) ∧ W'.cell? ⟨ad.block, ad.off + 2, none⟩ = some (.int .i64 x.f2) ∧ W'.cell? ⟨ad.block, ad.off + 3, none⟩ = some (.slice A0 x.f3.length c0)) ((first | exact keepS RSd.out OKb.out.drew BX0.out E0.out | exact keepS (RS0.out.alloc _).drew (OKb.out.alloc _).drew BX0.out E0.out | exact keepS RS1.out OK1.out BX0.out E0.out | exact keepS RS2.out OK2.out BX0.out E0.out)) ((first | (refine rfs_lit (by rfl) (.tmp 9) (.tmp 10) rfl [40] 1 1 rfl rfl rfl (RS0.out.alloc _).drew L1.out.drew HL0.out ?_; intro v1 w1 r1 o1 _; have RS1 := Aside0.mk r1; have OK1 := Aside0.mk ((OKb.out.alloc _).drew.trans o1); clear r1 o1) | (go_at_call 71; refine (HX.out A0 c0 _ _ _ RS1.out C0.out.2 C0.out.1 HL1.out).mono ?_; rintro e w2 ⟨v2, rfl, r2, o2⟩; have RS2 := Aside0.mk r2; have OK2 := Aside0.mk (OK1.out.trans o2); clear r2 o2)))
  clear RS1 OK1 L1 RSd
  go_wp2_with fail
  go_region_held2 (fun W' => W'.cell? ⟨W.heap.size, 3, none⟩ = some (.slice (some ad) 2 c) ∧ W'.cell? ⟨ad.block, ad.off + 4, none⟩ = some (.int .i64 y.f0) ∧ W'.cell? ⟨ad.block, ad.off + 4 + 1, none⟩ = some (.string y.f1) ∧ W'.cell? ⟨ad.block, ad.off + 4 + 2, none⟩ = some (.int .i64 y.f2) ∧ W'.cell? ⟨ad.block, ad.off + 4 + 3, none⟩ = some (.slice A1 y.f3.length c1)) ((first | exact keepS (a := ⟨ad.block, ad.off + 4, none⟩) RS2.out.drew OK2.out.drew BX0.out F0.out | exact keepS (a := ⟨ad.block, ad.off + 4, none⟩) RS3.out OK3.out BX0.out F0.out | exact keepS (a := ⟨ad.block, ad.off + 4, none⟩) RS4.out OK4.out BX0.out F0.out)) ((first | (refine rfs_str (by rfl) (.tmp 18) (.tmp 19) rfl mid rfl rfl RS2.out.drew HL2.out ?_; intro v3 w3 r1 o1 _; have RS3 := Aside0.mk r1; have OK3 := Aside0.mk (OK2.out.drew.trans o1); clear r1 o1) | (go_at_call 71; refine (HY.out A1 c1 _ _ _ RS3.out C1.out.2 C1.out.1 HL3.out).mono ?_; rintro e w4 ⟨v4, rfl, r2, o2⟩; have RS4 := Aside0.mk r2; have OK4 := Aside0.mk (OK3.out.trans o2); clear r2 o2)))
  clear RS2 OK2 RS3 OK3
  have L2 : Aside0 (LitC (w4.alloc (.cells #[.int .u8 41] 5)) w4.heap.size [41]) := ⟨lit1 _ 41 _ rfl⟩
  go_wp2_with (at_builtin; refine rf_lit rfl (.tmp 27) (.tmp 28) rfl [41] 1 1 rfl rfl rfl (RS4.out.alloc _) L2.out HL4.out ?_; intro v5 w5 r1 o1; have RS5 := Aside0.mk r1; have OK5 := Aside0.mk ((OK4.out.alloc _).trans o1); clear r1 o1)
  obtain ⟨A5, c5, rfl⟩ := own_slice RS5.out.row
  go_wp2_with fail
  go_ret
  exact ⟨_, rfl, by rw [HE.out]; exact RS5.out, OK0.out.trans OK5.out⟩
end
end Go.Proofs.YtajefkjcfmfjkaaDoor
