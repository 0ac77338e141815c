/- Spell: what it computes (the walk). -/
import Derived.Test.YtajefkjcfmfjkaaDoorTokE
import Derived.WalkSpells
namespace Go.Proofs.YtajefkjcfmfjkaaDoor
open Go.RowKit Go.Proofs.YtajefkjcfmfjkaaDoorW.PrintWords Go.Proofs.YtajefkjcfmfjkaaDoor.PTokenPieces

/-- a token's word in a spelling -/
def spW (x : S35) : ByteArray := if x.f0 = 3 then (⟨#[37]⟩ : ByteArray) ++ x.f1 else x.f1
theorem info9 : (Tryd.prog.info? 9).map (fun i => (i.zero, i.size, i.bytes)) = some (some (.string ⟨#[]⟩), 1, 16) := by kernel_rfl

theorem own_keep {W W1 : World} {base : Nat} {e : TypeId} {size n : Nat} {v : Value} {xs : List Value} (h : W.ownsRow base e size v n xs) (hm : ∀ k, v.ownBlock = some k → k < W.heap.size → W1.heap[k]? = W.heap[k]?) : W1.ownsRow base e size v n xs :=
  own_move h (fun k hk => hm k hk (own_lt h k hk))
theorem own_far {W : World} {base : Nat} {e : TypeId} {size n c G gb j : Nat} {xs : List Value} {u : Value} (h : W.ownsRow base e size (.slice (some ⟨G, 0, none⟩) n c) n xs) (hne : G ≠ gb) : (W.setCell ⟨gb, j, none⟩ u).ownsRow base e size (.slice (some ⟨G, 0, none⟩) n c) n xs :=
  own_move h (fun k hk => by
    have : G = k := by simpa [Value.ownBlock] using hk
    subst this
    exact Below.heap_setCell W ⟨gb, j, none⟩ u _ hne)

/-- the words so far -/
def spCur (l : List S35) (k : Nat) : List ByteArray := (l.take k).map spW ++ List.replicate (l.length - k) (⟨#[]⟩ : ByteArray)
theorem spCur_set (l : List S35) (k : Nat) (hk : k < l.length) : (spCur l k).set k (spW (rd_T35 l k)) = spCur l (k + 1) := by
  unfold spCur
  have h1 : ((l.take k).map spW).length = k := by simp; omega
  rw [List.set_append_right _ _ (by omega), h1, Nat.sub_self, show l.length - k = (l.length - (k + 1)) + 1 by omega, List.replicate_succ, List.set_cons_zero, List.take_succ_eq_append_getElem hk, List.map_append]
  simp [rd_T35, List.getElem?_eq_getElem hk, List.append_assoc, -List.map_take]
theorem spCur_len (l : List S35) (k : Nat) (hk : k ≤ l.length) : (spCur l k).length = l.length := by
  unfold spCur; simp; omega
theorem spCur_zero (l : List S35) : spCur l 0 = List.replicate l.length (⟨#[]⟩ : ByteArray) := by simp [spCur]
theorem spCur_all (l : List S35) : spCur l l.length = l.map spW := by simp [spCur]

/-- the spelling of tokens -/
def spellB (l : List S35) : ByteArray := ⟨(Lib.join ((l.map spW).map (·.data.toList)) [32]).toArray⟩

set_option maxHeartbeats 4000000 in
set_option maxRecDepth 100000 in
theorem spell_any (l : List S35) (A : Option Addr) (c : Nat) (w : World) (hl : l.length ≤ 1000000) (hz : ∀ x ∈ l, x.f1.size ≤ 1000000) (hr : Kd.C k35 w A l.length l) (hlen : (Lib.join ((l.map spW).map (·.data.toList)) [32]).length ≤ 140737488355328) :
    Calls Tryd.prog 25 #[.slice A l.length c] w fun e w' => e = .returned (.string (spellB l)) ∧ Below w.heap.size w w' := by
  have HS := Aside0.mk hr
  have HL := Aside0.mk hlen
  have HZ := Aside0.mk hz
  clear hr hlen hz
  have hmk := print_make_of (P := Tryd.prog) 38 9 (.string ⟨#[]⟩) 16 Tryd.underlying38 info9 rfl (by decide) l.length (by omega)
  have HO0 := Aside0.mk (own_made_of (enc := Value.string) (d := (⟨#[]⟩ : ByteArray)) w w.heap.size 9 l.length (Nat.le_refl _) (by omega))
  have HB0 : Aside0 (Below w.heap.size w (w.alloc (.cells (madeCells #[Value.string ⟨#[]⟩] l.length) 9))) := ⟨below_alloc (Below.refl _ _) _⟩
  rw [← spCur_zero] at HO0
  go_enter Tryd.func25, Tryd.ntmps25
  go_wp2
  clear hmk
  go_loopw [11] (fun x w' => ∃ (k : Nat), k ≤ l.length ∧ x = .int .i64 k ∧ Aside0 (w'.ownsRow w.heap.size 9 1 (.slice (some ⟨w.heap.size, 0, none⟩) l.length l.length) l.length (encs Value.string (spCur l k))) ∧ Aside0 (Below w.heap.size w w')) (fun x _ => l.length - (intOf x).toNat)
  case atStart => exact ⟨0, by omega, rfl, HO0, HB0⟩
  case round =>
    clear HO0 HB0
    obtain ⟨k, hk, rfl, HO, HB⟩ := hrel
    by_cases hlt : k < l.length
    · have hlti : (k : Int) < (l.length : Int) := by omega
      obtain ⟨ad, e1, hx0, hx1, hx2⟩ := at_T35 HS.out (k : Int) (by omega) (by omega)
      subst e1
      rw [Int.toNat_natCast] at hx0 hx1 hx2
      replace hx0 := pw_cell_below HB.out hx0
      replace hx1 := pw_cell_below HB.out hx1
      replace hx2 := pw_cell_below HB.out hx2
      obtain ⟨hoc, hof⟩ := own_at_of (d := (⟨#[]⟩ : ByteArray)) HO.out (k : Int) (by omega) (by omega)
      rw [Int.toNat_natCast] at hoc hof
      have hol := own_lt HO.out w.heap.size (by simp [Value.ownBlock])
      have hst := fun (W : World) (h : W.ownsRow w.heap.size 9 1 (.slice (some ⟨w.heap.size, 0, none⟩) l.length l.length) l.length (encs Value.string (spCur l k))) (x : ByteArray) => (own_store_of h (k : Int) x).1
      simp only [Int.toNat_natCast] at hst
      have HST := Aside0.mk hst
      clear hst
      by_cases hk3 : (rd_T35 l k).f0 = 3
      · have hd3 : ((rd_T35 l k).f0 == 3) = true := by rw [hk3]; rfl
        have hsp : Aside0 (spW (rd_T35 l k) = (⟨#[37]⟩ : ByteArray) ++ (rd_T35 l k).f1) := ⟨by unfold spW; rw [if_pos hk3]⟩
        have hcs : (rd_T35 l k).f1.size ≤ 1000000 := by
          have : rd_T35 l k = l[k] := by simp [rd_T35, List.getElem?_eq_getElem hlt]
          rw [this]
          exact HZ.out _ (List.getElem_mem hlt)
        have HST2 : Aside0 (∀ (W : World), W.ownsRow w.heap.size 9 1 (.slice (some ⟨w.heap.size, 0, none⟩) l.length l.length) l.length (encs Value.string (spCur l k)) → ∀ x y : ByteArray, ((W.setCell ⟨w.heap.size, k, none⟩ (.string x)).setCell ⟨w.heap.size, k, none⟩ (.string y)).ownsRow w.heap.size 9 1 (.slice (some ⟨w.heap.size, 0, none⟩) l.length l.length) l.length (encs Value.string ((spCur l k).set k y))) := by
          constructor
          intro W h x y
          have h1 := HST.out W h x
          have h2 := (own_store_of (enc := Value.string) h1 (k : Int) y).1
          rw [Int.toNat_natCast, List.set_set] at h2
          exact h2
        clear hk3
        go_wp2
        go_roundw
        case rel => exact ⟨k + 1, by omega, by go_num, ⟨by rw [← spCur_set l k hlt, hsp.out]; exact own_alloc (HST2.out wr HO.out _ _) _⟩, ⟨below_alloc (below_set (below_set HB.out (Nat.le_refl _)) (Nat.le_refl _)) _⟩⟩
        case measure => simp [intOf]; omega
      · have hd3 : ((rd_T35 l k).f0 == 3) = false := by rw [beq_eq_false_iff_ne]; exact hk3
        have hsp : Aside0 (spW (rd_T35 l k) = (rd_T35 l k).f1) := ⟨by unfold spW; rw [if_neg hk3]⟩
        clear hk3
        go_wp2
        go_roundw
        case rel => exact ⟨k + 1, by omega, by go_num, ⟨by rw [← spCur_set l k hlt, hsp.out]; exact own_alloc (HST.out wr HO.out _) _⟩, ⟨below_alloc (below_set HB.out (Nat.le_refl _)) _⟩⟩
        case measure => simp [intOf]; omega
    · have : k = l.length := by omega
      subst this
      have hol := own_lt HO.out w.heap.size (by simp [Value.ownBlock])
      have hJ : Aside0 (Calls Tryd.prog 58 #[.slice (some ⟨w.heap.size, 0, none⟩) l.length l.length, .string ⟨#[32]⟩] wr fun e w' => e = .returned (.string (spellB l)) ∧ Below wr.heap.size wr w') := by
        constructor
        have hcells := HO.out.cells rfl
        rw [spCur_all] at hcells
        have := Tryd.strings_Join w.heap.size 0 l.length (l.map spW) ⟨#[32]⟩ wr (fun j x hx => by
          have h2 := hcells j (.string x) (by simp only [encs, List.getElem?_map, hx, Option.map_some])
          rw [add_plain] at h2
          simpa using h2) hol (by rw [List.length_map]; omega) (by rw [List.length_map]; exact Nat.le_refl _) HL.out
        rwa [List.length_map] at this
      clear hol
      go_wp2_with (first | (go_at_call 58; (with_reducible refine hJ.out.mono ?_); rintro e w' ⟨rfl, hb⟩; have HB2 := Aside0.mk hb; clear hb))
      go_ret
      exact ⟨rfl, below_step HB.out HB2.out⟩
end Go.Proofs.YtajefkjcfmfjkaaDoor
