/- strconv.AppendInt and AppendBool at this program; lin.keyOf's text, walked by hand. -/
import Derived.Shelf.Strconv.AppendIntPublic10
import Derived.Test.YtipnedhclbopdaaDoorRows
import Derived.WalkKit
import Derived.LoopTactic
import Derived.Lib.AppendStr
import Derived.Laws.BytesString
import Derived.KernelRfl
set_option linter.unusedVariables false
set_option linter.unusedSimpArgs false
namespace Go.Proofs
open Go.Shelf
set_option maxRecDepth 100000
def Tryd.laysAI_ren : Go.Shelf.Ren := ⟨fun | 176 => 32 | 249 => 34 | 288 => 35 | 283 => 36 | 284 => 37 | 285 => 38 | 286 => 39 | 129 => 41 | 317 => 40 | 318 => 42 | 319 => 43 | 320 => 44 | 337 => 45 | 338 => 46 | n => n, fun | 37 => 57 | 2 => 2 | 3 => 3 | 53 => 60 | 4 => 4 | 9 => 9 | 171 => 63 | 0 => 0 | 173 => 66 | 212 => 70 | 51 => 71 | 5 => 5 | 20 => 20 | 213 => 72 | 46 => 74 | 232 => 77 | 233 => 78 | n => n, fun | 17 => 0 | 18 => 1 | 19 => 2 | n => n⟩
theorem Tryd.laysAI : LaysM.n176 Tryd.prog Tryd.laysAI_ren where
  mixed := by kernel_rfl
  f129 := Tryd.func41.trans (congrArg some (by kernel_rfl))
  f176 := Tryd.func32.trans (congrArg some (by kernel_rfl))
  f249 := Tryd.func34.trans (congrArg some (by kernel_rfl))
  f283 := Tryd.func36.trans (congrArg some (by kernel_rfl))
  f284 := Tryd.func37.trans (congrArg some (by kernel_rfl))
  f285 := Tryd.func38.trans (congrArg some (by kernel_rfl))
  f286 := Tryd.func39.trans (congrArg some (by kernel_rfl))
  f288 := Tryd.func35.trans (congrArg some (by kernel_rfl))
  f317 := Tryd.func40.trans (congrArg some (by kernel_rfl))
  f318 := Tryd.func42.trans (congrArg some (by kernel_rfl))
  f319 := Tryd.func43.trans (congrArg some (by kernel_rfl))
  f320 := Tryd.func44.trans (congrArg some (by kernel_rfl))
  f337 := Tryd.func45.trans (congrArg some (by kernel_rfl))
  f338 := Tryd.func46.trans (congrArg some (by kernel_rfl))
  t0 := Tryd.underlying0
  a0 := Tryd.isAgg0
  z0 := Tryd.sizeOf0
  v0 := Tryd.zeroValue0
  t2 := Tryd.underlying2
  a2 := Tryd.isAgg2
  z2 := Tryd.sizeOf2
  v2 := Tryd.zeroValue2
  t3 := Tryd.underlying3
  a3 := Tryd.isAgg3
  z3 := Tryd.sizeOf3
  v3 := Tryd.zeroValue3
  t4 := Tryd.underlying4
  a4 := Tryd.isAgg4
  z4 := Tryd.sizeOf4
  v4 := Tryd.zeroValue4
  t5 := Tryd.underlying5
  a5 := Tryd.isAgg5
  z5 := Tryd.sizeOf5
  v5 := Tryd.zeroValue5
  t9 := Tryd.underlying9
  a9 := Tryd.isAgg9
  z9 := Tryd.sizeOf9
  v9 := Tryd.zeroValue9
  t20 := Tryd.underlying20
  a20 := Tryd.isAgg20
  z20 := Tryd.sizeOf20
  v20 := Tryd.zeroValue20
  t37 := Tryd.underlying57
  a37 := Tryd.isAgg57
  z37 := Tryd.sizeOf57
  v37 := Tryd.zeroValue57
  t46 := Tryd.underlying74
  a46 := Tryd.isAgg74
  z46 := Tryd.sizeOf74
  v46 := Tryd.zeroValue74
  t51 := Tryd.underlying71
  a51 := Tryd.isAgg71
  z51 := Tryd.sizeOf71
  v51 := Tryd.zeroValue71
  t53 := Tryd.underlying60
  a53 := Tryd.isAgg60
  z53 := Tryd.sizeOf60
  v53 := Tryd.zeroValue60
  t171 := Tryd.underlying63
  a171 := Tryd.isAgg63
  z171 := Tryd.sizeOf63
  v171 := Tryd.zeroValue63
  t173 := Tryd.underlying66
  a173 := Tryd.isAgg66
  z173 := Tryd.sizeOf66
  v173 := Tryd.zeroValue66
  t212 := Tryd.underlying70
  a212 := Tryd.isAgg70
  z212 := Tryd.sizeOf70
  v212 := Tryd.zeroValue70
  t213 := Tryd.underlying72
  a213 := Tryd.isAgg72
  z213 := Tryd.sizeOf72
  t232 := Tryd.underlying77
  a232 := Tryd.isAgg77
  z232 := Tryd.sizeOf77
  v232 := Tryd.zeroValue77
  t233 := Tryd.underlying78
  a233 := Tryd.isAgg78
  z233 := Tryd.sizeOf78
  v233 := Tryd.zeroValue78
  g17 := by kernel_rfl
  g18 := by kernel_rfl
  g19 := by kernel_rfl
  i0 := by kernel_rfl
  i2 := by kernel_rfl
  i3 := by kernel_rfl
  i4 := by kernel_rfl
  i5 := by kernel_rfl
  i9 := by kernel_rfl
  i20 := by kernel_rfl
  i37 := by kernel_rfl
  i46 := by kernel_rfl
  i51 := by kernel_rfl
  i53 := by kernel_rfl
  i171 := by kernel_rfl
  i173 := by kernel_rfl
  i212 := by kernel_rfl
  i232 := by kernel_rfl
  i233 := by kernel_rfl
  m17 := by kernel_rfl
  m18 := by kernel_rfl
  m19 := by kernel_rfl
end Go.Proofs
namespace Go.Proofs.YtipnedhclbopdaaDoorR
open Go Go.Proofs Go.RowKit
set_option maxHeartbeats 4000000
set_option maxRecDepth 100000
theorem appI (B n : Nat) (i : Int) (h0 : -9223372036854775808 ≤ i) (h1 : i ≤ 9223372036854775807) (sv : Value) (xs : List Value) (w : World) (hown : w.ownsRow B 5 1 sv n xs) (hBw : B ≤ w.heap.size) (hlim : n + 21 ≤ 140737488355328)
    (htab : Lib.TabBelow Tryd.prog B w "internal/strconv.uint64pow10" .u64 Lib.pow10Tab) :
    Calls Tryd.prog 32 #[sv, .int .i64 i, .int .i64 10] w fun e w' => ∃ v', e = .returned v' ∧ w'.ownsRow B 5 1 v' (n + (Lib.itoa i).length) (xs ++ Lib.byteCells (Lib.itoa i)) ∧ Below B w w' :=
  (Any.strconv_AppendInt_10 Tryd.laysAI B n i h0 h1 sv xs w hown hBw hlim htab).mono fun e w' ⟨v', a, b, c, _⟩ => ⟨v', a, b, c⟩
theorem info5 : (Tryd.prog.info? 5).map (fun i => (i.zero, i.size, i.bytes)) = some (some (.int .u8 0), 1, 1) := by kernel_rfl
def boolB (d : Bool) : ByteArray := if d then ⟨#[116, 114, 117, 101]⟩ else ⟨#[102, 97, 108, 115, 101]⟩
theorem appB (B n : Nat) (d : Bool) (sv : Value) (xs : List Value) (w : World) (hown : w.ownsRow B 5 1 sv n xs) (hBw : B ≤ w.heap.size) (hlim : n + 5 ≤ 100000) :
    Calls Tryd.prog 33 #[sv, .bool d] w fun e w' => ∃ v', e = .returned v' ∧ w'.ownsRow B 5 1 v' (n + (boolB d).size) (xs ++ Lib.strCells (boolB d)) ∧ Below B w w' := by
  obtain ⟨i0, hi, hz0, hz1, hz2⟩ := info_parts info5
  cases d
  · go_enter Tryd.func33, Tryd.ntmps33
    go_wp2_with (at_builtin; refine Lib.wpList_append_own_string _ rfl _ _ 57 9 rfl B 5 i0 Tryd.underlying57 Tryd.underlying9 hi hz0 hz1 hz2 _ _ _ rfl hown _ rfl (by show n + 5 ≤ maxLen; unfold maxLen; omega) (by show n + 5 ≤ _; omega) hBw ?_)
    intro v1 w1 hown1 hgrow _
    have hb : Below B w w1 := (Below.refl B w).grown hgrow hBw (fun k hk => (hown.lt k hk).1)
    clear hgrow
    go_wp2
    go_ret
    exact ⟨v1, rfl, hown1, hb⟩
  · go_enter Tryd.func33, Tryd.ntmps33
    go_wp2_with (at_builtin; refine Lib.wpList_append_own_string _ rfl _ _ 57 9 rfl B 5 i0 Tryd.underlying57 Tryd.underlying9 hi hz0 hz1 hz2 _ _ _ rfl hown _ rfl (by show n + 4 ≤ maxLen; unfold maxLen; omega) (by show n + 4 ≤ _; omega) hBw ?_)
    intro v1 w1 hown1 hgrow _
    have hb : Below B w w1 := (Below.refl B w).grown hgrow hBw (fun k hk => (hown.lt k hk).1)
    clear hgrow
    go_wp2
    go_ret
    exact ⟨v1, rfl, hown1, hb⟩
theorem appB31 (B n : Nat) (d : Bool) (sv : Value) (xs : List Value) (w : World) (hown : w.ownsRow B 5 1 sv n xs) (hBw : B ≤ w.heap.size) (hlim : n + 5 ≤ 100000) :
    Calls Tryd.prog 31 #[sv, .bool d] w fun e w' => ∃ v', e = .returned v' ∧ w'.ownsRow B 5 1 v' (n + (boolB d).size) (xs ++ Lib.strCells (boolB d)) ∧ Below B w w' := by
  go_enter Tryd.func31, Tryd.ntmps31
  go_wp2_with (go_at_call 33; refine (appB B n d sv xs w hown hBw hlim).mono ?_; rintro e w1 ⟨v1, rfl, h1, h2⟩)
  go_wp2
  go_ret
  exact ⟨v1, rfl, h1, h2⟩
end Go.Proofs.YtipnedhclbopdaaDoorR
