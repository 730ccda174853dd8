/- Evs23D: a part of the proof. -/
import Derived.Test.YthmfjkakpefkeaaEvs23C
open Go Go.Proofs.YthmfjkakpefkeaaEv Go.Proofs.YthmfjkakpefkeaaR Go.IntWalk
set_option maxRecDepth 20000
set_option maxHeartbeats 8000000
set_option linter.unusedVariables false
set_option linter.unusedSimpArgs false
namespace Go.Proofs.YthmfjkakpefkeaaR
def inS (t1 t2 t3 : Bool) (m : Scr) : PV := .agg [.str m.text, .sl m.objs.length t1 (flat encO m.objs), .sl m.tasks.length t2 (flat encT m.tasks), .int .i64 m.slice, .sl m.choices.length t3 (flat encC m.choices)]
def sane (m : Scr) : Bool :=
  (((decide ((m.text.size : Int) ≤ 2000) && decide ((m.objs.length : Int) ≤ 4)) && decide ((m.tasks.length : Int) ≤ 7)) && decide ((m.choices.length : Int) ≤ 4000)) &&
  (decide (0 ≤ IntKind.i64.wrap (m.slice - 1) ∧ IntKind.i64.wrap (m.slice - 1) ≤ 255) && (!(m.objs.any fun o => !mayO o) && (!(m.tasks.any fun o => !mayT o) && !(m.choices.any fun o => !mayC o))))
section
variable {cf : CF} (hcf : cf = ev env)
include hcf
theorem s8 (t1 t2 t3 : Bool) (m : Scr) : cf 8 [inS t1 t2 t3 m] [] = some (.bool (sane m), []) := by
  obtain ⟨x, o, k, n, c⟩ := m
  refine ev_ofC' hcf env8 ?_
  simp only [inS, sane]
  conv => arg 2; simp only [ir8]
  conv => arg 3; simp only [ir8, Go.Proofs.YthmfjkakpefkeaaEv.start, List.length, Nat.reduceAdd, Nat.reduceSub, List.reduceReplicate, List.append_eq, List.cons_append, List.nil_append]
  conv => arg 4; simp only [heapOf]
  try conv => arg 5; simp only [List.length, Nat.reduceAdd]
  try conv => arg 6; simp only [List.length, Nat.reduceAdd]
  refine EVgo2 trivial trivial trivial trivial trivial ?_
  generalize decide ((x.size : Int) ≤ 2000) = p
  cases p
  · refine EVgo2 trivial trivial trivial trivial trivial ?_
    refine WQ.ret ?_
    try simp only [Bool.false_and, Bool.true_and, Bool.not_false, Bool.not_true, decide_true, decide_false, Bool.and_false, Bool.and_true]
    rfl
  refine EVgo2 trivial trivial trivial trivial trivial ?_
  by_cases h1 : (o.length : Int) ≤ 4
  · by_cases h2 : (k.length : Int) ≤ 7
    · by_cases h3 : (c.length : Int) ≤ 4000
      · refine EVgo2 (And.intro (h1) ( And.intro (h2) (h3))) (s22 hcf (IntKind.i64.wrap (n - 1)) 255) trivial trivial trivial ?_
        simp only [h1, h2, h3, decide_true, Bool.true_and]
        generalize decide (0 ≤ IntKind.i64.wrap (n - 1) ∧ IntKind.i64.wrap (n - 1) ≤ 255) = p
        cases p
        · refine EVgo2 trivial trivial trivial trivial trivial ?_
          refine WQ.ret ?_
          try simp only [Bool.false_and, Bool.true_and, Bool.not_false, Bool.not_true, decide_true, decide_false, Bool.and_false, Bool.and_true]
          rfl
        refine EVgo2 trivial (s23 hcf o t1 (by omega)) trivial trivial trivial ?_
        generalize (o.any fun o => !mayO o) = p
        cases p
        · refine EVgo2 trivial (s24 hcf k t2 (by omega)) trivial trivial trivial ?_
          generalize (k.any fun o => !mayT o) = p
          cases p
          · refine EVgo2 trivial (s25 hcf c t3 (by omega)) trivial trivial trivial ?_
            refine WQ.ret ?_
            try simp only [Bool.false_and, Bool.true_and, Bool.not_false, Bool.not_true, decide_true, decide_false, Bool.and_false, Bool.and_true]
            rfl
          · refine EVgo2 trivial trivial trivial trivial trivial ?_
            refine WQ.ret ?_
            try simp only [Bool.false_and, Bool.true_and, Bool.not_false, Bool.not_true, decide_true, decide_false, Bool.and_false, Bool.and_true]
            rfl
        · refine EVgo2 trivial trivial trivial trivial trivial ?_
          refine WQ.ret ?_
          try simp only [Bool.false_and, Bool.true_and, Bool.not_false, Bool.not_true, decide_true, decide_false, Bool.and_false, Bool.and_true]
          rfl
      · refine EVgo2 (And.intro (h1) ( And.intro (h2) (h3))) trivial trivial trivial trivial ?_
        try simp only [h1, h2, h3, decide_true, decide_false, Bool.true_and, Bool.false_and]
        refine WQ.ret ?_
        try simp only [Bool.false_and, Bool.true_and, Bool.not_false, Bool.not_true, decide_true, decide_false, Bool.and_false, Bool.and_true]
        rfl
    · refine EVgo2 (And.intro (h1) (h2)) trivial trivial trivial trivial ?_
      try simp only [h1, h2, decide_true, decide_false, Bool.true_and, Bool.false_and]
      refine WQ.ret ?_
      try simp only [Bool.false_and, Bool.true_and, Bool.not_false, Bool.not_true, decide_true, decide_false, Bool.and_false, Bool.and_true]
      rfl
  · refine EVgo2 (h1) trivial trivial trivial trivial ?_
    try simp only [h1, decide_true, decide_false, Bool.true_and, Bool.false_and]
    refine WQ.ret ?_
    try simp only [Bool.false_and, Bool.true_and, Bool.not_false, Bool.not_true, decide_true, decide_false, Bool.and_false, Bool.and_true]
    rfl
def hi (n : Int) : Int := IntKind.u8.wrap (n.fdiv (2 ^ min (Int.toNat 8) IntKind.i64.bits))
theorem s27 (n : Int) : cf 27 [.int .i64 n] [] = some (.own 0 1 0 2, [some (.row [.int .u8 (IntKind.u8.wrap (n.fdiv (2 ^ min (Int.toNat 8) IntKind.i64.bits))), .int .u8 (IntKind.u8.wrap n)])]) := by
  refine ev_ofC' hcf env27 ?_
  conv => arg 2; simp only [ir27]
  conv => arg 3; simp only [ir27, Go.Proofs.YthmfjkakpefkeaaEv.start, List.length, Nat.reduceAdd, Nat.reduceSub, List.reduceReplicate, List.append_eq, List.cons_append, List.nil_append]
  conv => arg 4; simp only [heapOf]
  try conv => arg 5; simp only [List.length, Nat.reduceAdd]
  try conv => arg 6; simp only [List.length, Nat.reduceAdd]
  refine EVgo2 trivial trivial trivial trivial trivial ?_
  exact WQ.ret rfl
def code (c : Bool × Int × Bool) : Int :=
  let a := IntKind.i64.wrap (4 * c.2.1)
  let b := if c.1 then IntKind.i64.wrap (a + 1) else a
  IntKind.u8.wrap (if c.2.2 then IntKind.i64.wrap (b + 2) else b)
theorem s28 (c : Bool × Int × Bool) : cf 28 [.agg (encC c)] [] = some (.int .u8 (code c), []) := by
  obtain ⟨a, b, d⟩ := c
  refine ev_ofC' hcf env28 ?_
  simp only [encC, code]
  conv => arg 2; simp only [ir28]
  conv => arg 3; simp only [ir28, Go.Proofs.YthmfjkakpefkeaaEv.start, List.length, Nat.reduceAdd, Nat.reduceSub, List.reduceReplicate, List.append_eq, List.cons_append, List.nil_append]
  conv => arg 4; simp only [heapOf]
  try conv => arg 5; simp only [List.length, Nat.reduceAdd]
  try conv => arg 6; simp only [List.length, Nat.reduceAdd]
  cases a <;> cases d
  · refine EVgo2 trivial trivial trivial trivial trivial ?_
    exact WQ.ret rfl
  · refine EVgo2 trivial trivial trivial trivial trivial ?_
    exact WQ.ret rfl
  · refine EVgo2 trivial trivial trivial trivial trivial ?_
    exact WQ.ret rfl
  · refine EVgo2 trivial trivial trivial trivial trivial ?_
    exact WQ.ret rfl
end
end Go.Proofs.YthmfjkakpefkeaaR
