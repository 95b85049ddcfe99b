/- slices.Sorted(maps.Keys(m)) at a set of whole numbers: the library's contracts at this program's numbers, in plain words. -/
import Derived.Shelf.SlIterI.Nil
import Derived.Shelf.SortM.Plain
import Derived.Shelf.SortM.SortNone
import Derived.Test.YtekfbafljilchaaS1
import Derived.Test.YtekfbafljilchaaS5
import Derived.Maps.OwnSet
import Derived.Shelf.Slices.Reverse
set_option linter.unusedVariables false
set_option linter.unusedSimpArgs false
namespace Go.Proofs.Ytekfbafljilchaa
open Go.RowKit Go.Maps Go.Sort Go.Shelf
def lkeysA_ren : Go.Shelf.Ren := ⟨fun | 7 => 67 | 10 => 112 | n => n, fun | 23 => 94 | 26 => 3 | 3 => 4 | 28 => 101 | 0 => 0 | 27 => 100 | 33 => 68 | 4 => 4 | n => n, fun | n => n⟩
theorem lkeysA : Go.Proofs.SlLaysZI.n7 Try.prog lkeysA_ren := {
  mixed := by kernel_rfl
  f7 := ⟨Try.f67.name, by decide, Try.func67.trans (congrArg some (by kernel_rfl))⟩
  f10 := ⟨Try.f112.name, by decide, Try.func112.trans (congrArg some (by kernel_rfl))⟩
  t0 := Try.underlying0
  a0 := Try.isAgg0
  z0 := Try.sizeOf0
  v0 := Try.zeroValue0
  t4 := Try.underlying4
  a4 := Try.isAgg4
  z4 := Try.sizeOf4
  v4 := Try.zeroValue4
  t23 := Try.underlying94
  a23 := Try.isAgg94
  z23 := Try.sizeOf94
  v23 := Try.zeroValue94
  t26 := Try.underlying3
  a26 := Try.isAgg3
  z26 := Try.sizeOf3
  v26 := Try.zeroValue3
  t27 := Try.underlying100
  a27 := Try.isAgg100
  z27 := Try.sizeOf100
  v27 := Try.zeroValue100
  t28 := Try.underlying101
  a28 := Try.isAgg101
  z28 := Try.sizeOf101
  v28 := Try.zeroValue101
  t33 := Try.underlying68
  a33 := Try.isAgg68
  z33 := Try.sizeOf68
  v33 := Try.zeroValue68 }
def lsortedA_ren : Go.Shelf.Ren := ⟨fun | 6 => 65 | 8 => 109 | 9 => 110 | 11 => 124 | 13 => 126 | 12 => 125 | 23 => 137 | 24 => 138 | 14 => 128 | 15 => 129 | 16 => 130 | 17 => 131 | 18 => 132 | 19 => 133 | 20 => 134 | 21 => 135 | 22 => 136 | 25 => 140 | 26 => 141 | 27 => 142 | 28 => 143 | 29 => 144 | 30 => 145 | 31 => 147 | n => n, fun | 26 => 3 | 28 => 101 | 24 => 29 | 0 => 0 | 3 => 3 | 37 => 151 | 48 => 161 | 50 => 163 | 4 => 4 | 40 => 155 | 39 => 154 | 45 => 55 | 5 => 5 | 9 => 9 | 51 => 164 | 55 => 168 | 57 => 170 | 58 => 171 | 33 => 68 | n => n, fun | n => n⟩
theorem lsortedA : Go.Proofs.SlLaysZI.n6 Try.prog lsortedA_ren := {
  mixed := by kernel_rfl
  f6 := ⟨Try.f65.name, by decide, Try.func65.trans (congrArg some (by kernel_rfl))⟩
  f8 := ⟨Try.f109.name, by decide, Try.func109.trans (congrArg some (by kernel_rfl))⟩
  f11 := ⟨Try.f124.name, by decide, Try.func124.trans (congrArg some (by kernel_rfl))⟩
  t0 := Try.underlying0
  a0 := Try.isAgg0
  z0 := Try.sizeOf0
  v0 := Try.zeroValue0
  t24 := Try.underlying29
  a24 := Try.isAgg29
  z24 := Try.sizeOf29
  v24 := Try.zeroValue29
  t26 := Try.underlying3
  a26 := Try.isAgg3
  z26 := Try.sizeOf3
  v26 := Try.zeroValue3
  t28 := Try.underlying101
  a28 := Try.isAgg101
  z28 := Try.sizeOf101
  v28 := Try.zeroValue101
  i26 := by kernel_rfl }
def lsortA_ren : Go.Shelf.Ren := ⟨fun | 5 => 110 | 8 => 126 | 7 => 125 | 19 => 137 | 20 => 138 | 10 => 128 | 11 => 129 | 12 => 130 | 13 => 131 | 14 => 132 | 15 => 133 | 16 => 134 | 17 => 135 | 18 => 136 | 30 => 140 | 31 => 141 | 32 => 142 | 33 => 143 | 34 => 144 | 35 => 145 | 40 => 147 | n => n, fun | 23 => 29 | 25 => 3 | 3 => 3 | 32 => 151 | 22 => 29 | 0 => 0 | 44 => 161 | 46 => 163 | 4 => 4 | 36 => 155 | 35 => 154 | 41 => 55 | 5 => 5 | 9 => 9 | 53 => 164 | 57 => 168 | 63 => 170 | 64 => 171 | n => n, fun | n => n⟩
theorem lsortA : Go.Proofs.SlLaysM.n5 Try.prog lsortA_ren := {
  mixed := by kernel_rfl
  f5 := ⟨Try.f110.name, by decide, Try.func110.trans (congrArg some (by kernel_rfl))⟩
  f7 := ⟨Try.f125.name, by decide, Try.func125.trans (congrArg some (by kernel_rfl))⟩
  f8 := Try.func126.trans (congrArg some (by kernel_rfl))
  f10 := ⟨Try.f128.name, by decide, Try.func128.trans (congrArg some (by kernel_rfl))⟩
  f11 := ⟨Try.f129.name, by decide, Try.func129.trans (congrArg some (by kernel_rfl))⟩
  f12 := ⟨Try.f130.name, by decide, Try.func130.trans (congrArg some (by kernel_rfl))⟩
  f13 := ⟨Try.f131.name, by decide, Try.func131.trans (congrArg some (by kernel_rfl))⟩
  f14 := ⟨Try.f132.name, by decide, Try.func132.trans (congrArg some (by kernel_rfl))⟩
  f15 := ⟨Try.f133.name, by decide, Try.func133.trans (congrArg some (by kernel_rfl))⟩
  f16 := ⟨Try.f134.name, by decide, Try.func134.trans (congrArg some (by kernel_rfl))⟩
  f17 := ⟨Try.f135.name, by decide, Try.func135.trans (congrArg some (by kernel_rfl))⟩
  f18 := ⟨Try.f136.name, by decide, Try.func136.trans (congrArg some (by kernel_rfl))⟩
  f19 := Try.func137.trans (congrArg some (by kernel_rfl))
  f20 := Try.func138.trans (congrArg some (by kernel_rfl))
  f30 := ⟨Try.f140.name, by decide, Try.func140.trans (congrArg some (by kernel_rfl))⟩
  f31 := Try.func141.trans (congrArg some (by kernel_rfl))
  f32 := Try.func142.trans (congrArg some (by kernel_rfl))
  f33 := ⟨Try.f143.name, by decide, Try.func143.trans (congrArg some (by kernel_rfl))⟩
  f34 := ⟨Try.f144.name, by decide, Try.func144.trans (congrArg some (by kernel_rfl))⟩
  f35 := ⟨Try.f145.name, by decide, Try.func145.trans (congrArg some (by kernel_rfl))⟩
  f40 := ⟨Try.f147.name, by decide, Try.func147.trans (congrArg some (by kernel_rfl))⟩
  t0 := Try.underlying0
  a0 := Try.isAgg0
  z0 := Try.sizeOf0
  v0 := Try.zeroValue0
  t3 := Try.underlying3
  a3 := Try.isAgg3
  z3 := Try.sizeOf3
  v3 := Try.zeroValue3
  t4 := Try.underlying4
  a4 := Try.isAgg4
  z4 := Try.sizeOf4
  v4 := Try.zeroValue4
  t5 := Try.underlying5
  a5 := Try.isAgg5
  z5 := Try.sizeOf5
  v5 := Try.zeroValue5
  t9 := Try.underlying9
  a9 := Try.isAgg9
  z9 := Try.sizeOf9
  v9 := Try.zeroValue9
  t22 := Try.underlying29
  a22 := Try.isAgg29
  z22 := Try.sizeOf29
  v22 := Try.zeroValue29
  t23 := Try.underlying29
  a23 := Try.isAgg29
  z23 := Try.sizeOf29
  v23 := Try.zeroValue29
  t25 := Try.underlying3
  a25 := Try.isAgg3
  z25 := Try.sizeOf3
  v25 := Try.zeroValue3
  t32 := Try.underlying151
  a32 := Try.isAgg151
  z32 := Try.sizeOf151
  v32 := Try.zeroValue151
  t35 := Try.underlying154
  a35 := Try.isAgg154
  z35 := Try.sizeOf154
  v35 := Try.zeroValue154
  t36 := Try.underlying155
  a36 := Try.isAgg155
  z36 := Try.sizeOf155
  v36 := Try.zeroValue155
  t41 := Try.underlying55
  a41 := Try.isAgg55
  z41 := Try.sizeOf55
  v41 := Try.zeroValue55
  t44 := Try.underlying161
  a44 := Try.isAgg161
  z44 := Try.sizeOf161
  v44 := Try.zeroValue161
  t46 := Try.underlying163
  a46 := Try.isAgg163
  z46 := Try.sizeOf163
  v46 := Try.zeroValue163
  t53 := Try.underlying164
  a53 := Try.isAgg164
  z53 := Try.sizeOf164
  v53 := Try.zeroValue164
  t57 := Try.underlying168
  a57 := Try.isAgg168
  z57 := Try.sizeOf168
  v57 := Try.zeroValue168
  t63 := Try.underlying170
  a63 := Try.isAgg170
  z63 := Try.sizeOf170
  v63 := Try.zeroValue170
  t64 := Try.underlying171
  a64 := Try.isAgg171
  z64 := Try.sizeOf171
  v64 := Try.zeroValue171 }

theorem lsortsA (m : Nat) : AnyZI.SortsIn Try.prog lsortedA_ren Fence.wide m :=
  ⟨fun blk off cap ss W hH hblk hsz => callsIn_wide.2 (AnyM.slices_Sort_int lsortA blk off cap ss W hH hblk hsz),
   fun p cap W => callsIn_wide.2 (AnyM.slices_Sort_int_none lsortA p cap W)⟩
theorem keys_any (mb : Option Nat) (W : World) : Calls Try.prog 67 #[.map mb] W fun e w' => e = .returned (.func (.func 112) #[] #[.pointer (some ⟨W.heap.size, 0, none⟩)]) ∧ w' = W.alloc (.cells #[.map mb] 94) :=
  (callsIn_wide (n := 5)).1 (AnyZI.keys_in lkeysA Fence.wide 5 trivial rfl mb W)
/-- The keys, sorted, in a new row. -/
def SortedPost {H : Type} (D0 : DataW H) (w : World) (e : Ending) (w' : World) : Prop :=
  ∃ (v : Value) (ss : List Int), e = .returned v ∧ ss.Perm (intKeys D0) ∧ w'.ownsRow w.heap.size 3 1 v ss.length ((ss.mergeSort (fun x y => decide (x ≤ y))).map encZ) ∧ Below w.heap.size w w'
theorem sorted_any {H : Type} (b nn : Nat) (D0 : DataW H) (R : Value → Option (DataW H × List MemPlace)) (w : World) (hown : w.ownsMap Try.prog 3 R b nn D0) (hmax : Maps.size D0 ≤ maxLen) (hbytes : Maps.size D0 * 8 ≤ 140737488355328) :
    Calls Try.prog 65 #[.func (.func 112) #[] #[.pointer (some ⟨w.heap.size, 0, none⟩)]] (w.alloc (.cells #[.map (some b)] 94)) (SortedPost D0 (w.alloc (.cells #[.map (some b)] 94))) := by
  have hbl := hown.lt
  have hseq : SeqGives Fence.wide 2 Try.prog 112 #[.pointer (some ⟨w.heap.size, 0, none⟩)] encZ (fun ss => ss.Perm (intKeys D0)) (Maps.size D0) (w.alloc (.cells #[.map (some b)] 94)) :=
    AnyZI.keys_gives (ρ := lkeysA_ren) { lkeysA with } Fence.wide _ trivial rfl (by omega) w.heap.size b nn D0 _ (by simp) (by simp) (by
      obtain ⟨es, clock, hb, Ft, hs, hD⟩ := hown
      exact ⟨es, clock, (Below.heap_alloc _ _ b hbl).trans hb, Ft, hs, hD⟩)
  have cS := AnyZI.sorted_in lsortedA Fence.wide 5 trivial trivial trivial trivial rfl (by omega) (lsortsA _) (enters_of Try.func110 (by kernel_rfl) rfl) 112 #[.pointer (some ⟨w.heap.size, 0, none⟩)] trivial (enters_of Try.func112 (by kernel_rfl) rfl) _ _ hmax hbytes _ hseq
  change CallsIn _ _ Try.prog 65 _ _ _ at cS
  exact (callsIn_wide.1 cS).mono fun e w' ⟨v, ss, h1, h2, h3, h4, h5⟩ => ⟨v, ss, h1, h2, h3, h5⟩
end Go.Proofs.Ytekfbafljilchaa

/- A set of numbers as a map of the call's own: made, added to, its keys sorted. -/
set_option linter.unusedVariables false
set_option linter.unusedSimpArgs false
namespace Go.Proofs.Ytekfbafljilchaa
open Go.RowKit Go.Lib

theorem klaw3 : Maps.Keyed Try.prog 3 := Maps.int_keyed Try.underlying3
/-- Block b is a map whose keys are the numbers of L. -/
def OM (w : World) (b : Nat) (L : List Int) : Prop :=
  ∃ D : DataW Unit, w.ownsMap Try.prog 3 (plainElem (H := Unit) Try.prog 4) b (Maps.size D) D ∧ L.Nodup ∧ ∀ x, x ∈ L ↔ Maps.has D (.int .i64 x) = true
theorem OM.lt {w : World} {b : Nat} {L : List Int} (h : OM w b L) : b < w.heap.size := by
  obtain ⟨D, h, _⟩ := h
  exact h.lt
theorem OM.new (w : World) : OM (w.alloc (.map #[] 0)) w.heap.size [] :=
  ⟨.map [], World.ownsMap_made w _ _ _, List.nodup_nil, fun x => by simp [Maps.has]⟩
theorem OM.fr {S : List Nat} {w w' : World} {b : Nat} {L : List Int} (h : OM w b L) (f : Fr S w w') (hb : b ∉ S) : OM w' b L := by
  have hlt := h.lt
  obtain ⟨D, ⟨es, clock, hg, r⟩, h2⟩ := h
  exact ⟨D, ⟨es, clock, (f.block b hlt hb).trans hg, r⟩, h2⟩
theorem OM.exact {w : World} {b n : Nat} {D : DataW Unit} (h : w.ownsMap Try.prog 3 (plainElem (H := Unit) Try.prog 4) b n D) : w.ownsMap Try.prog 3 (plainElem (H := Unit) Try.prog 4) b (Maps.size D) D := by
  obtain ⟨es, clock, hb, F, hs, rfl⟩ := h
  exact ⟨es, clock, hb, F, by rw [Maps.size_eq, length_read]; exact Nat.le_refl _, rfl⟩
theorem OM.perm {w : World} {b n : Nat} {D : DataW Unit} {L : List Int} (h : w.ownsMap Try.prog 3 (plainElem (H := Unit) Try.prog 4) b n D) (hn : L.Nodup) (hm : ∀ x, x ∈ L ↔ Maps.has D (.int .i64 x) = true) : L.Perm (intKeys D) :=
  CollectedI.perm (left := fun _ => false) ⟨hn, fun x => by rw [hm x]; simp⟩ h klaw3 Try.underlying3 (fun _ => rfl)
theorem OM.size {w : World} {b n : Nat} {D : DataW Unit} {L : List Int} (h : w.ownsMap Try.prog 3 (plainElem (H := Unit) Try.prog 4) b n D) (hn : L.Nodup) (hm : ∀ x, x ∈ L ↔ Maps.has D (.int .i64 x) = true) : Maps.size D = L.length := by
  have hp := (OM.perm h hn hm).length_eq
  obtain ⟨es, e⟩ := h.isMap
  rw [hp, e]
  simp [Maps.size, intKeys]
theorem wf_small {x : Int} (h0 : 0 ≤ x) (h1 : x < 128) : (Lit.int .i64 x).wf = true := WalkArith.wf_i64 (by omega)

/-- m[x] = true. -/
theorem wpList_set {w : World} {ops : Array Oper} {rest : List Oper} {o : Oper} {a : Act} {Q : Exit → Act → World → Prop} {b : Nat} {L : List Int} {x : Int}
    (hg : o.guard = none) (m k v : Operand) (hop : o.op = Op.mapUpdate 94 m k v) (hm : a.eval m = .map (some b)) (hO : OM w b L) (hL : L.length ≤ 1000) (hx : a.eval k = .int .i64 x) (hv : a.eval v = .bool true) (h0 : 0 ≤ x) (h1 : x < 128)
    (hK : ∀ w', OM w' b (add1 L x) → Fr [b] w w' → wpList Try.prog ops Q rest (a.put o.dst undef) w') : wpList Try.prog ops Q (o :: rest) a w := by
  obtain ⟨D, hown, hn, hh⟩ := hO
  have hs := OM.size hown hn hh
  refine wpList_mapUpdate_own w hg m k v 94 hop 3 4 klaw3 Try.underlying94 (plainElem (H := Unit) Try.prog 4) b _ D hm hown (by rw [hs]; unfold maxLen; omega) _ _ (.int .i64 x) hx hv (Maps.keyOf_int_mk Try.underlying3 (wf_small h0 h1)) _ [] (plainElem_bool Try.underlying4 true) ?_
  intro w1 hown1 hgrow1
  refine hK w1 ⟨_, OM.exact hown1, nodup_add1 hn, fun y => ?_⟩ (Fr.of_grown hgrow1 (fun k hk _ => by simp at hk; simp [hk]))
  rw [mem_add1, hh y]
  by_cases e : y = x
  · subst e
    rw [Maps.has_put_same hown.isMap (show WideAt.IsKeyLit (.int .i64 y) from trivial)]
    simp
  · rw [Maps.has_put_other (fun h => e (by injection h))]
    simp [e]

/-- The keys, sorted: a new row. -/
theorem OM.sorted {w : World} {b : Nat} {L : List Int} (h : OM w b L) (hL : L.length ≤ 1000) :
    Calls Try.prog 65 #[.func (.func 112) #[] #[.pointer (some ⟨w.heap.size, 0, none⟩)]] (w.alloc (.cells #[.map (some b)] 94)) fun e w' =>
      ∃ v, e = .returned v ∧ w'.ownsRow (w.heap.size + 1) 3 1 v L.length (I64s (L.mergeSort (fun x y => decide (x ≤ y)))) ∧ Fr [] (w.alloc (.cells #[.map (some b)] 94)) w' := by
  obtain ⟨D, hown, hn, hh⟩ := h
  have hs := OM.size hown hn hh
  refine (sorted_any b _ D (plainElem (H := Unit) Try.prog 4) w hown (by rw [hs]; unfold maxLen; omega) (by rw [hs]; omega)).mono ?_
  rintro e w' ⟨v, ss, rfl, hp, ho, hb⟩
  have hp2 := hp.trans (OM.perm hown hn hh).symm
  have e : ss.mergeSort (fun x y => decide (x ≤ y)) = L.mergeSort (fun x y => decide (x ≤ y)) := mergeSort_of_perm_i hp2
  rw [e, hp2.length_eq] at ho
  refine ⟨v, rfl, ?_, Fr.of_below hb⟩
  have hz : (w.alloc (.cells #[.map (some b)] 94)).heap.size = w.heap.size + 1 := by simp
  rw [hz] at ho
  exact ho
end Go.Proofs.Ytekfbafljilchaa

/- slices.Reverse of a row of numbers of one's own. -/
set_option linter.unusedVariables false
set_option linter.unusedSimpArgs false
namespace Go.Proofs.Ytekfbafljilchaa
open Go.RowKit Go.Lib Go.Sort

def lrev_ren : Go.Shelf.Ren := ⟨fun | 112 => 68 | n => n, fun | 28 => 29 | n => n, fun n => n⟩
theorem lrev : Go.Proofs.Lays.n112 Try.prog lrev_ren := {
  mixed := by kernel_rfl
  f112 := Try.func68.trans (congrArg some (by kernel_rfl))
  t0 := Try.underlying0
  a0 := Try.isAgg0
  z0 := Try.sizeOf0
  v0 := Try.zeroValue0
  t3 := Try.underlying3
  a3 := Try.isAgg3
  z3 := Try.sizeOf3
  v3 := Try.zeroValue3
  t4 := Try.underlying4
  a4 := Try.isAgg4
  z4 := Try.sizeOf4
  v4 := Try.zeroValue4
  t28 := Try.underlying29
  a28 := Try.isAgg29
  z28 := Try.sizeOf29
  v28 := Try.zeroValue29 }
theorem grow_none (w : World) : grow w #[] = w := by simp [grow]
theorem reverse_any (W : World) (B : Nat) (v : Value) (l : List Int) (hown : W.ownsRow B 3 1 v l.length (I64s l)) (hl : l.length ≤ 1000) :
    Calls Try.prog 68 #[v] W fun e w' => e = .returned (.tuple #[]) ∧ w'.ownsRow B 3 1 v l.length (I64s l.reverse) ∧ Fr v.ownBlock.toList W w' := by
  rcases hown.2 with ⟨rfl, h0⟩ | ⟨g, cap, cur, rfl, hb, hg, hn, hm, hs, ht⟩
  · obtain rfl : l = [] := List.eq_nil_of_length_eq_zero h0
    exact (Any.slices_Reverse_int_empty lrev none 0 W).mono fun e w' ⟨he, hw⟩ => ⟨he, hw ▸ hown, hw ▸ Fr.refl _ _⟩
  · refine (Any.slices_Reverse_int lrev g 0 cap l W (holds_of_block_i hg (by rw [← Nat.mul_one l.length]; exact ht)) (by omega)).mono ?_
    rintro e w' ⟨he, n, rfl⟩
    have hr : (grow (putRow (Value.int .i64) (Sort.ahead W n) g 0 l.reverse.toArray) #[]) = putRow (Value.int .i64) (Sort.ahead W n) g 0 l.reverse.toArray := grow_none _
    have ho := ownsRow_sorted_i (os := #[]) (n := n) (ss := l) (ts := l.reverse) (by simp) hb hg hn hm hs
    have hf := grownBy_sorted_i (w := W) (g := g) (n := n) (os := #[]) l.reverse.toArray
    rw [show encZ = Value.int .i64 from rfl, hr] at ho hf
    exact ⟨he, ho, Fr.of_grown hf (fun k hk _ => by simp at hk; simp [Value.ownBlock, hk])⟩
end Go.Proofs.Ytekfbafljilchaa
