/- Layer 13 in plain Lean: a packet's step. -/
import Derived.Test.YtlnnkkbcmidddaaPickP
import Derived.Test.YtlnnkkbcmidddaaTopoP
import Derived.Test.YtlnnkkbcmidddaaConfA
namespace Go.Proofs.Ytlnnkkbcmidddaa

structure Fly where
  id : Int
  src : Int
  dst : Int
  ttl : Int
  tag : Int
  sw : Int
  inn : Int
  deriving DecidableEq
structure Hop where
  tick : Int
  id : Int
  sw : Int
  inn : Int
  tag : Int
  what : Int
  out : Int
  deriving DecidableEq
def noFly : Fly := ⟨0, 0, 0, 0, 0, 0, 0⟩
abbrev flyV (f : Fly) : Value := .agg #[.int .i64 f.id, .int .i64 f.src, .int .i64 f.dst, .int .i64 f.ttl, .int .i64 f.tag, .int .i64 f.sw, .int .i64 f.inn]
abbrev hopV (h : Hop) : Value := .agg #[.int .i64 h.tick, .int .i64 h.id, .int .i64 h.sw, .int .i64 h.inn, .int .i64 h.tag, .int .i64 h.what, .int .i64 h.out]
def hopAt (f : Fly) (what out : Int) : Hop := ⟨0, f.id, f.sw, f.inn, f.tag, what, out⟩
def stepP (s p : Int) (ls : List Lnk) (cs : List (List Rul)) (f : Fly) : Hop × Fly :=
  if f.ttl < 1 then (hopAt f 5 0, noFly) else
  match bestN f.inn f.dst (atL cs f.sw) (atL cs f.sw).length with
  | none => (hopAt f 3 0, noFly)
  | some j => match (atL cs f.sw)[j]? with
    | none => (hopAt f 3 0, noFly)
    | some r =>
      if r.kind ≠ 1 then (hopAt f 2 0, noFly) else
      if (farR s p ls f.sw r.port).2.2 = true then (hopAt f 0 r.port, { f with ttl := f.ttl - 1, sw := (farR s p ls f.sw r.port).1, inn := (farR s p ls f.sw r.port).2.1 }) else (hopAt f 1 r.port, noFly)
end Go.Proofs.Ytlnnkkbcmidddaa
