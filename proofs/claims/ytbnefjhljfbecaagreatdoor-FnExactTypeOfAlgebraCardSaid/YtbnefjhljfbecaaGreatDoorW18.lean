import Derived.Shelf.Strings.OnBuilder
import Derived.Shelf.Strings.Split
import Derived.Test.YtbnefjhljfbecaaGreatDoorW01
import Derived.Test.YtbnefjhljfbecaaGreatDoorW13
import Derived.Test.YtbnefjhljfbecaaGreatDoorW17
namespace Go.Proofs.YtbnefjhljfbecaaGreatDoor
set_option maxRecDepth 100000
section
open Go.RowKit Go.Shelf
namespace Car
def lays146_ren : Go.Shelf.Ren := ⟨fun | 146 => 122 | 221 => 135 | 268 => 143 | 138 => 144 | 143 => 145 | 195 => 152 | 197 => 153 | 218 => 154 | 219 => 155 | 260 => 161 | 217 => 162 | 225 => 163 | 224 => 164 | 267 => 165 | 266 => 168 | 314 => 169 | n => n, fun | 9 => 9 | 31 => 65 | 3 => 3 | 4 => 4 | 0 => 0 | 105 => 153 | 21 => 21 | 5 => 5 | 46 => 161 | 119 => 164 | 139 => 167 | 138 => 166 | 146 => 168 | 51 => 159 | n => n, fun | 1 => 0 | 3 => 2 | 4 => 3 | n => n⟩
theorem lays146 : Go.Proofs.Lays.n146 Tryz.prog lays146_ren := {
 mixed := by kernel_rfl,
 f138 := Tryz.func144.trans (congrArg some (by kernel_rfl)),
 f143 := Tryz.func145.trans (congrArg some (by kernel_rfl)),
 f146 := Tryz.func122.trans (congrArg some (by kernel_rfl)),
 f195 := Tryz.func152.trans (congrArg some (by kernel_rfl)),
 f197 := Tryz.func153.trans (congrArg some (by kernel_rfl)),
 f217 := Tryz.func162.trans (congrArg some (by kernel_rfl)),
 f218 := Tryz.func154.trans (congrArg some (by kernel_rfl)),
 f219 := Tryz.func155.trans (congrArg some (by kernel_rfl)),
 f221 := Tryz.func135.trans (congrArg some (by kernel_rfl)),
 f224 := Tryz.func164.trans (congrArg some (by kernel_rfl)),
 f225 := Tryz.func163.trans (congrArg some (by kernel_rfl)),
 f260 := Tryz.func161.trans (congrArg some (by kernel_rfl)),
 f266 := Tryz.func168.trans (congrArg some (by kernel_rfl)),
 f267 := Tryz.func165.trans (congrArg some (by kernel_rfl)),
 f268 := Tryz.func143.trans (congrArg some (by kernel_rfl)),
 f314 := Tryz.func169.trans (congrArg some (by kernel_rfl)),
 t0 := Tryz.underlying0,
 a0 := Tryz.isAgg0,
 z0 := Tryz.sizeOf0,
 v0 := Tryz.zeroValue0,
 t3 := Tryz.underlying3,
 a3 := Tryz.isAgg3,
 z3 := Tryz.sizeOf3,
 v3 := Tryz.zeroValue3,
 t4 := Tryz.underlying4,
 a4 := Tryz.isAgg4,
 z4 := Tryz.sizeOf4,
 v4 := Tryz.zeroValue4,
 t5 := Tryz.underlying5,
 a5 := Tryz.isAgg5,
 z5 := Tryz.sizeOf5,
 v5 := Tryz.zeroValue5,
 t9 := Tryz.underlying9,
 a9 := Tryz.isAgg9,
 z9 := Tryz.sizeOf9,
 v9 := Tryz.zeroValue9,
 t21 := Tryz.underlying21,
 a21 := Tryz.isAgg21,
 z21 := Tryz.sizeOf21,
 v21 := Tryz.zeroValue21,
 t31 := Tryz.underlying65,
 a31 := Tryz.isAgg65,
 z31 := Tryz.sizeOf65,
 v31 := Tryz.zeroValue65,
 t46 := Tryz.underlying161,
 a46 := Tryz.isAgg161,
 z46 := Tryz.sizeOf161,
 v46 := Tryz.zeroValue161,
 t51 := Tryz.underlying159,
 a51 := Tryz.isAgg159,
 z51 := Tryz.sizeOf159,
 v51 := Tryz.zeroValue159,
 t105 := Tryz.underlying153,
 a105 := Tryz.isAgg153,
 z105 := Tryz.sizeOf153,
 v105 := Tryz.zeroValue153,
 t119 := Tryz.underlying164,
 a119 := Tryz.isAgg164,
 z119 := Tryz.sizeOf164,
 t138 := Tryz.underlying166,
 a138 := Tryz.isAgg166,
 z138 := Tryz.sizeOf166,
 v138 := Tryz.zeroValue166,
 t139 := Tryz.underlying167,
 a139 := Tryz.isAgg167,
 z139 := Tryz.sizeOf167,
 v139 := Tryz.zeroValue167,
 t146 := Tryz.underlying168,
 a146 := Tryz.isAgg168,
 z146 := Tryz.sizeOf168,
 v146 := Tryz.zeroValue168,
 g1 := by kernel_rfl,
 g3 := by kernel_rfl,
 g4 := by kernel_rfl }
def lays156_ren : Go.Shelf.Ren := ⟨fun | 156 => 92 | 165 => 118 | 166 => 119 | 169 => 120 | 240 => 133 | 241 => 134 | 276 => 141 | 277 => 142 | n => n, fun | 31 => 65 | 9 => 9 | 3 => 3 | 4 => 4 | 0 => 0 | 20 => 20 | 72 => 121 | 76 => 125 | 70 => 118 | 37 => 119 | 75 => 124 | 127 => 133 | 164 => 139 | 5 => 5 | 80 => 127 | n => n, fun | n => n⟩
theorem lays156 : Go.Proofs.Lays.n156 Tryz.prog lays156_ren := {
 mixed := by kernel_rfl,
 f156 := Tryz.func92.trans (congrArg some (by kernel_rfl)),
 f165 := Tryz.func118.trans (congrArg some (by kernel_rfl)),
 f166 := Tryz.func119.trans (congrArg some (by kernel_rfl)),
 f169 := Tryz.func120.trans (congrArg some (by kernel_rfl)),
 f240 := Tryz.func133.trans (congrArg some (by kernel_rfl)),
 f241 := Tryz.func134.trans (congrArg some (by kernel_rfl)),
 f276 := Tryz.func141.trans (congrArg some (by kernel_rfl)),
 f277 := Tryz.func142.trans (congrArg some (by kernel_rfl)),
 t0 := Tryz.underlying0,
 a0 := Tryz.isAgg0,
 z0 := Tryz.sizeOf0,
 v0 := Tryz.zeroValue0,
 t3 := Tryz.underlying3,
 a3 := Tryz.isAgg3,
 z3 := Tryz.sizeOf3,
 v3 := Tryz.zeroValue3,
 t4 := Tryz.underlying4,
 a4 := Tryz.isAgg4,
 z4 := Tryz.sizeOf4,
 v4 := Tryz.zeroValue4,
 t9 := Tryz.underlying9,
 a9 := Tryz.isAgg9,
 z9 := Tryz.sizeOf9,
 v9 := Tryz.zeroValue9,
 t20 := Tryz.underlying20,
 a20 := Tryz.isAgg20,
 z20 := Tryz.sizeOf20,
 v20 := Tryz.zeroValue20,
 t31 := Tryz.underlying65,
 a31 := Tryz.isAgg65,
 z31 := Tryz.sizeOf65,
 v31 := Tryz.zeroValue65,
 t37 := Tryz.underlying119,
 a37 := Tryz.isAgg119,
 z37 := Tryz.sizeOf119,
 v37 := Tryz.zeroValue119,
 t70 := Tryz.underlying118,
 a70 := Tryz.isAgg118,
 z70 := Tryz.sizeOf118,
 v70 := Tryz.zeroValue118,
 t72 := Tryz.underlying121,
 a72 := Tryz.isAgg121,
 z72 := Tryz.sizeOf121,
 v72 := Tryz.zeroValue121,
 t75 := Tryz.underlying124,
 a75 := Tryz.isAgg124,
 z75 := Tryz.sizeOf124,
 v75 := Tryz.zeroValue124,
 t76 := Tryz.underlying125,
 a76 := Tryz.isAgg125,
 z76 := Tryz.sizeOf125,
 v76 := Tryz.zeroValue125,
 t127 := Tryz.underlying133,
 a127 := Tryz.isAgg133,
 z127 := Tryz.sizeOf133,
 v127 := Tryz.zeroValue133,
 t164 := Tryz.underlying139,
 a164 := Tryz.isAgg139,
 z164 := Tryz.sizeOf139,
 v164 := Tryz.zeroValue139 }
theorem xtra156 : Builder.Extra Tryz.prog lays156_ren := {
 sizeBuilder := by kernel_rfl,
 liesBuilder := by kernel_rfl,
 t5 := Tryz.underlying5,
 a5 := Tryz.isAgg5,
 z5 := Tryz.sizeOf5,
 v5 := Tryz.zeroValue5,
 infoByte := by kernel_rfl,
 cellsByte := by kernel_rfl,
 sizeByte := by kernel_rfl,
 neB5 := by decide }
theorem split_any (s : ByteArray) (m : Int) (w : World) (hs : s.size < 4294967281) (hm : w.cell? ⟨0, 0, none⟩ = some (.int .i64 m)) :
  Calls Tryz.prog 122 #[.string s, .string ⟨#[43]⟩] w fun e w' =>
   e = .returned (.slice (some ⟨w.heap.size, 0, none⟩) (Lib.countB s ⟨#[43]⟩ + 1) (Lib.countB s ⟨#[43]⟩ + 1)) ∧ w' = w.alloc (.cells ((Lib.splitB ⟨#[43]⟩ 0 (Lib.countB s ⟨#[43]⟩) s).map Value.string).toArray 9) :=
 Any.strings_Split lays146 (by kernel_rfl) s ⟨#[43]⟩ m w hs hm (by decide)
theorem join_any (bk o c : Nat) (xs : List ByteArray) (w : World)
  (hcells : ∀ (j : Nat) x, xs[j]? = some x → w.cell? ⟨bk, o + j, none⟩ = some (.string x))
  (hbk : bk < w.heap.size) (hN : xs.length ≤ 140737488355328) (hcap : xs.length ≤ c)
  (hlen : (Lib.join (xs.map (·.data.toList)) [43]).length ≤ 140737488355328) :
  Calls Tryz.prog 92 #[.slice (some ⟨bk, o, none⟩) xs.length c, .string ⟨#[43]⟩] w fun e w' => e = .returned (.string ⟨(Lib.join (xs.map (·.data.toList)) [43]).toArray⟩) ∧ Below w.heap.size w w' :=
 Any.strings_Join lays156 xtra156 bk o c xs ⟨#[43]⟩ w hcells hbk hN hcap hlen
end Car
end
section
open Go.RowKit
namespace Car
def nameT (t : List Nat) : ByteArray := ⟨(Lib.join (t.map fun k => (nmB k).data.toList) [43]).toArray⟩
def nameOk (n : Nat) : Bool := (tys n).all fun t => (Lib.countB (nameT t) ⟨#[43]⟩ + 1 == t.length) && ((Lib.splitB ⟨#[43]⟩ 0 (Lib.countB (nameT t) ⟨#[43]⟩) (nameT t)).map (·.data.toList) == (t.map nmB).map (·.data.toList)) && decide ((nameT t).size ≤ 100) && decide (0 < (nameT t).size)
theorem nameOk_1 : nameOk 1 = true := by decide +kernel
theorem nameOk_2 : nameOk 2 = true := by decide +kernel
theorem nameOk_3 : nameOk 3 = true := by decide +kernel
theorem nameOk_4 : nameOk 4 = true := by decide +kernel
theorem name_ok {n : Nat} (h1 : 1 ≤ n) (h4 : n ≤ 4) {t : List Nat} (ht : t ∈ tys n) : Lib.countB (nameT t) ⟨#[43]⟩ + 1 = t.length ∧ Lib.splitB ⟨#[43]⟩ 0 (Lib.countB (nameT t) ⟨#[43]⟩) (nameT t) = t.map nmB ∧ (nameT t).size ≤ 100 ∧ 0 < (nameT t).size := by
 have hd : nameOk n = true := by
  have : n = 1 ∨ n = 2 ∨ n = 3 ∨ n = 4 := by omega
  rcases this with rfl | rfl | rfl | rfl
  ·exact nameOk_1
  ·exact nameOk_2
  ·exact nameOk_3
  ·exact nameOk_4
 have h := List.all_eq_true.1 hd t ht
 simp only [Bool.and_eq_true, decide_eq_true_eq, beq_iff_eq] at h
 refine ⟨h.1.1.1, ?_, h.1.2, h.2⟩
 have hinj : ∀ a b : List ByteArray, a.map (·.data.toList) = b.map (·.data.toList) → a = b := by
  intro a
  induction a with
  | nil => intro b hb; cases b with | nil => rfl | cons => cases hb
  | cons x a ih =>
   intro b hb
   cases b with
   | nil => cases hb
   | cons y b =>
    rw [List.map_cons, List.map_cons, List.cons.injEq] at hb
    rw [ih b hb.2]
    congr 1
    cases x; cases y
    congr 1
    exact Array.toList_inj.1 hb.1
 exact hinj _ _ h.1.1.2
def carCells : List Value → List (Nat × List Int) → List Value
 | u :: us, m :: ms => .int .i64 m.1 :: u :: carCells us ms
 | _, _ => []
theorem carCells_get : ∀ (us : List Value) (ms : List (Nat × List Int)) (i : Nat) (u : Value) (m : Nat × List Int), us[i]? = some u → ms[i]? = some m → (carCells us ms)[i * 2]? = some (.int .i64 m.1) ∧ (carCells us ms)[i * 2 + 1]? = some u
 | [], _, _, _, _, h, _ => by simp at h
 | _ :: _, [], _, _, _, _, h => by simp at h
 | u :: us, m :: ms, 0, u', m', h, h' => by
  simp only [List.getElem?_cons_zero, Option.some.injEq] at h h'
  subst h; subst h'
  exact ⟨rfl, rfl⟩
 | u :: us, m :: ms, i + 1, u', m', h, h' => by
  have := carCells_get us ms i u' m' (by simpa using h) (by simpa using h')
  have e : (i + 1) * 2 = i * 2 + 2 := by omega
  simp only [carCells, e, Nat.add_right_comm _ 2, List.getElem?_cons_succ]
  exact this
theorem carCells_snoc : ∀ (us : List Value) (ms : List (Nat × List Int)) (u : Value) (m : Nat × List Int), us.length = ms.length → carCells (us ++ [u]) (ms ++ [m]) = carCells us ms ++ [.int .i64 m.1, u]
 | [], [], _, _, _ => rfl
 | a :: us, b :: ms, u, m, h => by simp only [List.cons_append, carCells]; rw [carCells_snoc us ms u m (by simpa using h)]
def carIt (v : Value) (us : List Value) (bl : List (Nat × List Int)) : It := .vec v 49 2 bl.length (carCells us bl) (us.zip (bl.map Prod.snd))
theorem infoC : (Tryz.prog.info? 49).map (fun i => (i.zero, i.size, i.bytes)) = some (some (.agg #[.int .i64 0, .slice none 0 0]), 2, 32) := by kernel_rfl
theorem St.emptyCars {w0 w : World} {L : List It} (h : St w0 w L) : St w0 (w.alloc (.cells #[] 49)) (carIt (.slice (some ⟨w.heap.size, 0, none⟩) 0 0) [] [] :: L) :=
 h.push (x := carIt (.slice (some ⟨w.heap.size, 0, none⟩) 0 0) [] []) ((Below.refl _ _).alloc (Nat.le_refl _) _) ⟨World.ownsRow_lit (base := w0.heap.size) (e := 49) (size := 2) w #[] 0 h.size (by simp) rfl, fun s hs => by cases hs⟩ (fun b hb => by simp [carIt, It.fp, Value.ownBlock] at hb; omega) (by simp [carIt, It.fp, Value.ownBlock])
theorem It.cars {B : Nat} {w : World} {v : Value} {us : List Value} {bl : List (Nat × List Int)} (h : (carIt v us bl).ok B w) (hl : us.length = bl.length) : CarsAt w v bl := by
 obtain ⟨h1, h2⟩ := h
 rcases id h1.2 with ⟨rfl, h0⟩ | ⟨g, cap, cur, rfl, hb, hg, hn, hm, _⟩
 ·obtain rfl : bl = [] := List.eq_nil_of_length_eq_zero h0
  exact ⟨none, 0, rfl, by simp, fun h => absurd h (by simp)⟩
 ·refine ⟨_, cap, rfl, hn, fun _ => ⟨g, 0, rfl, fun i m hi => ?_⟩⟩
  have hil := (List.getElem?_eq_some_iff.1 hi).1
  have hu : us[i]? = some (us[i]'(by omega)) := List.getElem?_eq_getElem _
  obtain ⟨k0, k1⟩ := carCells_get us bl i _ m hu hi
  have at_ : ∀ k, k < 2 → w.cell? ⟨g, 0 + i * 2 + k, none⟩ = (carCells us bl)[i * 2 + k]? := fun k hk => by
   rw [Nat.zero_add]; exact World.ownsRow.cellAt h1 _ (by omega)
  refine ⟨us[i]'(by omega), by rw [show 0 + i * 2 = 0 + i * 2 + 0 from rfl, at_ 0 (by omega)]; exact k0, (at_ 1 (by omega)).trans k1, ?_⟩
  exact Own.ints (h2 (us[i]'(by omega), m.2) (List.mem_of_getElem? (zip_get hu (by rw [List.getElem?_map, hi]; rfl))))
theorem wp_append_car {ops : Array Oper} {rest : List Oper} {o : Oper} {a : Act} {Q : Exit → Act → World → Prop} {w0 w : World} {L : List It} (hgd : o.guard = none) (s x : Operand)
  (ho : o.op = .call { callee := .builtin .append, args := #[s, x], argTypes := #[129, 129] }) {u v : Value} (m : Nat × List Int) {us : List Value} {ms : List (Nat × List Int)} (h : St w0 w (.own u m.2 :: L)) (j : Nat) (hj : L[j]? = some (carIt v us ms)) (hul : us.length = ms.length)
  (hs : a.eval s = v) (hx : a.eval x = .slice (some ⟨w.heap.size, 0, none⟩) 1 1) (hlen : ms.length + 1 ≤ 1099511627776)
  (hk : ∀ v' w', St w0 w' (L.set j (carIt v' (us ++ [u]) (ms ++ [m]))) → wpList Tryz.prog ops Q rest (a.put o.dst v') w') : wpList Tryz.prog ops Q (o :: rest) a (w.alloc (.cells #[.int .i64 m.1, u] 49)) := by
 obtain ⟨i, h1, h2, h3, h4⟩ := info_parts infoC
 have hab := h.absorb j hj
 have hil : j < L.length := (List.getElem?_eq_some_iff.1 hj).1
 have ho' : Own w w0.heap.size u m.2 := h.own 0 rfl
 refine wp_append_vec hgd s x 129 49 2 32 i _ ho Tryz.underlying129 h1 h2 h3 h4 rfl (by decide) hab j (by rw [List.getElem?_set_self hil]) [.int .i64 m.1, u] rfl (by
  intro y hy
  simp only [List.mem_cons, List.not_mem_nil, or_false] at hy
  rcases hy with rfl | rfl
  ·rfl
  ·exact ho'.one) hs hx (by simp only [maxLen]; omega) (by omega) fun v' w' hst => hk v' w' ?_
 rw [List.set_set] at hst
 have e : carIt v' (us ++ [u]) (ms ++ [m]) = .vec v' 49 2 (ms.length + 1) (carCells us ms ++ [.int .i64 m.1, u]) (us.zip (ms.map Prod.snd) ++ [(u, m.2)]) := by
  unfold carIt; rw [carCells_snoc us ms u m hul, List.map_append, List.zip_append (by simpa using hul)]; simp
 rw [e]; exact hst
def bks (t : List Nat) : List (Nat × List Int) := t.map fun k => (rk k, mx k)
theorem mx_len {k : Nat} (h : k < 12) : (mx k).length = rk k * rk k := by
 have hd : ((List.range 12).all fun k => decide ((mx k).length = rk k * rk k)) = true := by decide +kernel
 exact of_decide_eq_true (List.all_eq_true.1 hd k (List.mem_range.2 h))
def MaxAt (w : World) : Prop := ∃ m, w.cell? ⟨0, 0, none⟩ = some (.int .i64 m)
theorem MaxAt.below {w w' : World} (h : MaxAt w) (hb : Below w.heap.size w w') : MaxAt w' := by
 obtain ⟨m, hm⟩ := h
 exact ⟨m, (World.cell?_of_block (hb.block _ (World.block_lt_of_cell? w _ hm))).trans hm⟩
def RetCo (w : World) (n : Nat) (D : List Int) (e : Ending) (w' : World) : Prop := ∃ u, e = .returned (.tuple #[.agg #[.int .i64 n, u], .bool true]) ∧ Own w' w.heap.size u D ∧ Below w.heap.size w w'
set_option maxHeartbeats 8000000 in
theorem CartanOf_any (n : Nat) (t : List Nat) (w : World) (h1 : 1 ≤ n) (h4 : n ≤ 4) (ht : t ∈ tys n) (hM : MaxAt w) : Calls Tryz.prog 95 #[.string (nameT t)] w (RetCo w n (due n t)) := by
 obtain ⟨k1, k2, k3, k4⟩ := name_ok h1 h4 ht
 obtain ⟨j1, j2, j3, j4, j5⟩ := jn_ok h1 h4 ht
 obtain ⟨mm, hmm⟩ := hM
 have hSp := fun (W : World) (hW : W.cell? ⟨0, 0, none⟩ = some (.int .i64 mm)) => split_any (nameT t) mm W (by omega) hW
 rw [k1, k2] at hSp
 have HSp := Lib.hid hSp
 obtain ⟨m, hm⟩ : ∃ m, m = t.length := ⟨_, rfl⟩
 obtain ⟨nm, hnm⟩ : ∃ nm, nm = nameT t := ⟨_, rfl⟩
 rw [← hm, ← hnm] at HSp
 rw [← hnm]
 obtain ⟨E, hE⟩ : ∃ E, E = due n t := ⟨_, rfl⟩
 rw [← hE] at j1 ⊢
 have HJ := Lib.hid (show jn (bks t) = E from j1)
 have HS := Lib.hid (show sumB (bks t) = n from j2)
 have HK := Lib.hid j5
 have Hm := Lib.hid hm
 have hm1 : 1 ≤ m := by omega
 have hm4 : m ≤ 4 := by omega
 have h5 := (St.start w).box [.int .i64 0, .slice none 0 0] 49
 have hx : (w.alloc (.cells #[.int .i64 0, .slice none 0 0] 49)).cell? ⟨0, 0, none⟩ = some (.int .i64 mm) := (World.cell?_of_block (((Below.refl w.heap.size w).alloc (Nat.le_refl _) _).block _ (World.block_lt_of_cell? w _ hmm))).trans hmm
 clear k1 k2 k3 k4 j1 j2 j3 j4 j5 hSp hm hnm hE ht hmm
 go_enter Tryz.func95, Tryz.ntmps95
 go_wp2_with fail
 refine (HSp.out _ hx).mono ?_
 rintro (e : Ending) w3 ⟨rfl, hw3⟩
 obtain ⟨Bs, hBs⟩ : ∃ Bs, Bs = (w.alloc (.cells #[.int .i64 0, .slice none 0 0] 49)).heap.size := ⟨_, rfl⟩
 have hcell : ∀ j k, t[j]? = some k → w3.cell? ⟨Bs, j, none⟩ = some (.string (nmB k)) := fun j k hj => by
  rw [hw3, hBs, World.cell?_alloc_new]
  simp [hj]
 have hb3 : Below (w.alloc (.cells #[.int .i64 0, .slice none 0 0] 49)).heap.size (w.alloc (.cells #[.int .i64 0, .slice none 0 0] 49)) w3 := by
  rw [hw3]; exact (Below.refl _ _).alloc (Nat.le_refl _) _
 have h6 := h5.hold hb3 (fun W => ∀ j k, t[j]? = some k → W.cell? ⟨Bs, j, none⟩ = some (.string (nmB k))) (fun W hk j k hj => by
  have h9 := hcell j k hj
  rw [← h9]
  refine World.cell?_of_block (hk Bs (by rw [hBs]; exact Nat.le_refl _) (World.block_lt_of_cell? w3 _ h9)))
 obtain ⟨bsl, hbsl⟩ : ∃ bsl, bsl = List.range' (w.alloc (.cells #[.int .i64 0, .slice none 0 0] 49)).heap.size (w3.heap.size - (w.alloc (.cells #[.int .i64 0, .slice none 0 0] 49)).heap.size) := ⟨_, rfl⟩
 rw [← hbsl] at h6
 have h7 := St.emptyCars h6
 rw [← hBs]
 clear h5 hx hw3 hcell hb3 hbsl hBs h6
 go_wp2
 go_loopw [5, 6, 16] (fun v5 v6 v16 wr => ∃ (i : Nat) (us : List Value), v16 = .int .i64 i ∧ v6 = .int .i64 (sumB ((bks t).take i) : Nat) ∧ i ≤ m ∧ Hid (us.length = ((bks t).take i).length) ∧ St w wr [carIt v5 us ((bks t).take i), .held bsl (fun W => ∀ j k, t[j]? = some k → W.cell? ⟨Bs, j, none⟩ = some (.string (nmB k))), .box w.heap.size [.int .i64 0, .slice none 0 0]]) (fun _ _ v16 _ => m - (intOf v16).toNat)
 case atStart => exact ⟨0, [], rfl, rfl, by omega, Lib.hid rfl, h7⟩
 case round =>
  clear h7
  obtain ⟨i, us, rfl, rfl, a1, Hu, g⟩ := hrel
  by_cases hi : i < m
  ·have hit : i < t.length := by rw [← Hm.out]; exact hi
   have hc := (g.heldR 1 rfl) i t[i] (List.getElem?_eq_getElem hit)
   have hk12 := HK.out t[i] (List.getElem_mem hit)
   obtain ⟨k, hk⟩ : ∃ k, k = t[i] := ⟨_, rfl⟩
   rw [← hk] at hc hk12
   have hbl : i < (bks t).length := by unfold bks; rw [List.length_map]; exact hit
   have hbk : (bks t)[i] = (rk k, mx k) := by simp [bks, hk]
   have HT := Lib.hid (show (bks t).take (i + 1) = (bks t).take i ++ [(rk k, mx k)] by rw [take_snoc hbl, hbk])
   have hr := rk_pos hk12
   have HP := Lib.hid (fun W => partCartan_any k W hk12)
   have HSm := Lib.hid (show sumB ((bks t).take (i + 1)) = sumB ((bks t).take i) + rk k by rw [HT.out, sumB_snoc])
   have hS4 : sumB ((bks t).take i) + rk k ≤ 4 := by have := sumB_le (bks t) (i + 1); rw [HSm.out, HS.out] at this; omega
   obtain ⟨nk, hnk⟩ : ∃ nk, nk = nmB k := ⟨_, rfl⟩
   rw [← hnk] at hc HP
   obtain ⟨S, hS⟩ : ∃ S, S = sumB ((bks t).take i) := ⟨_, rfl⟩
   rw [← hS] at HSm hS4 ⊢
   obtain ⟨BL, hBL⟩ : ∃ BL, BL = (bks t).take i := ⟨_, rfl⟩
   rw [← hBL] at g HT Hu
   have hBLl : BL.length ≤ 4 := by rw [hBL, List.length_take]; omega
   have ii : (i : Int) < (m : Int) := by omega
   have Hlen := Lib.hid (show BL.length + 1 ≤ 1099511627776 by omega)
   clear hk hbl hbk hnk hS hBL hit
   go_wp2_with fail
   refine (HP.out _).mono ?_
   rintro (e : Ending) w5 ⟨u, rfl, ho, hb5⟩
   obtain ⟨Au, nu, cu, rfl⟩ := ho.slice
   obtain ⟨r, hrk⟩ : ∃ r, r = rk k := ⟨_, rfl⟩
   have g2 := g.pushOwn hb5 ho
   rw [← hrk] at HSm hS4 HT hr ⊢
   have wS : IntKind.i64.wrap ((S : Int) + (r : Int)) = ((S + r : Nat) : Int) := by rw [wrap_ok (by omega) (by omega)]; simp
   have wS2 : wrap64 ((S : Int) + (r : Int)) = ((S + r : Nat) : Int) := by rw [w64_ok (by omega) (by omega)]; simp
   have g3 := (g2.box [.int .i64 r, .slice Au nu cu] 49).toFront 1 rfl
   simp only [List.eraseIdx_cons_succ, List.eraseIdx_cons_zero] at g3
   obtain ⟨p0, p1⟩ := g3.box2 1 rfl
   have HSm2 := Lib.hid HSm.out.symm
   clear g g2 ho hb5 hrk hc HP HSm
   go_wp2_with (at_builtin; refine wp_append_car rfl (.tmp 32) (.tmp 34) rfl (r, mx k) g3 1 rfl Hu.out rfl (by rw [World.size_alloc]; rfl) Hlen.out ?_; intro v2 w8 q2)
   have q3 := (q2.drop 1)
   simp only [List.set_cons_zero, List.set_cons_succ, List.drop_succ_cons, List.drop_zero] at q3
   go_roundw
   case rel => exact ⟨i + 1, us ++ [_], by go_num, by rw [← HSm2.out]; simp, by omega, by show _ = _; rw [HT.out, List.length_append, List.length_append, Hu.out]; rfl, by rw [HT.out]; exact q3⟩
   case measure => simp [intOf]; omega
  ·obtain rfl : m = i := by omega
   have hTk : (bks t).take m = bks t := List.take_of_length_le (by unfold bks; rw [List.length_map, ← Hm.out]; exact Nat.le_refl _)
   rw [hTk] at g Hu
   rw [hTk, HS.out]
   have hC := It.cars (g.at 0 rfl) Hu.out
   have HJo := Lib.hid (fun (W : World) (v : Value) (h : CarsAt W v (bks t)) => joined_any v (bks t) W h (fun b hb => by
    unfold bks at hb
    obtain ⟨k, hk, rfl⟩ := List.mem_map.1 hb
    exact ⟨(rk_pos (HK.out k hk)).1, mx_len (HK.out k hk)⟩) (by rw [HS.out]; exact h4) (by unfold bks; rw [List.length_map, ← Hm.out]; exact hm4))
   rw [HS.out, HJ.out] at HJo
   have hn4 : ¬ ((n : Int) > 4) := by omega
   clear hTk
   go_wp2_with fail
   refine (HJo.out _ _ hC).mono ?_
   rintro (e : Ending) w5 ⟨u, rfl, ho, hb5⟩
   obtain ⟨Au, nu, cu, rfl⟩ := ho.slice
   have g2 := g.pushOwn hb5 ho
   obtain ⟨z0, z1⟩ := g2.box2 3 rfl
   have f0 := g2.free 3 rfl 0
   have f1 := g2.free 3 rfl 1
   have g9 := (g2.setBox 3 rfl 0 (.int .i64 n)).setBox 3 rfl 1 (.slice Au nu cu)
   obtain ⟨s0, s1⟩ := g9.box2 3 rfl
   clear hC g
   go_wp2
   refine bodyPost_ret (v := .tuple #[.agg #[.int .i64 n, .slice Au nu cu], .bool true]) (by simp [results, Tryz.results95, go_sem, s0, s1]) rfl ⟨_, rfl, g9.own 0 rfl, g9.below⟩
end Car
end
end Go.Proofs.YtbnefjhljfbecaaGreatDoor
