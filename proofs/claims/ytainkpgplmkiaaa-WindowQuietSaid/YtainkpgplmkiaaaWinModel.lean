/- What window's functions compute, in plain Lean. -/
import Derived.Test.YtainkpgplmkiaaaWin3
namespace Go.Proofs.Ytainkpgplmkiaaa.WinModel
open Go Go.Proofs.Ytainkpgplmkiaaa.Win Go.Proofs.Ytainkpgplmkiaaa.Win2
structure Sd where
  seen : Bool
  e : Int
  m : Int
  fin : Bool
structure Cn where
  st : Int
  a : Sd
  b : Sd
structure Tr where
  sp : Int
  dp : Int
  sq : Int
  ak : Int
  fl : Int
  wi : Int
  ty : Int
  co : Int
  he : Int
  da : Int
def Cn.val (c : Cn) : Value := .agg #[.int .i64 c.st, .bool c.a.seen, .int .u32 c.a.e, .int .u32 c.a.m, .bool c.a.fin, .bool c.b.seen, .int .u32 c.b.e, .int .u32 c.b.m, .bool c.b.fin]
def Tr.val (t : Tr) : Value := .agg #[.int .i64 t.sp, .int .i64 t.dp, .int .u32 t.sq, .int .u32 t.ak, .int .i64 t.fl, .int .i64 t.wi, .int .i64 t.ty, .int .i64 t.co, .int .i64 t.he, .int .i64 t.da]
/-- A segment with Syn. -/
def synced (c : Cn) (back fi rs ac : Bool) (ak wi da en : Int) : Cn × Bool :=
  if fi then (c, false) else if rs then (c, false) else if da != 0 then (c, false)
  else match back with
    | true =>
      if c.b.seen then (if en == c.b.e then (c, decide (c.st ≤ 2)) else (c, false))
      else if c.st != 1 then (c, false) else if ac then (if ak != c.a.e then (c, false) else (⟨2, { c.a with m := grant c.a.seen true c.a.m ak wi }, ⟨true, en, (en + wi) % 4294967296, false⟩⟩, true)) else (c, false)
    | false =>
      if c.a.seen then (if en == c.a.e then (c, decide (c.st ≤ 2)) else (c, false)) else (c, false)
def next (c : Cn) (back : Bool) (t : Tr) : Cn × Bool :=
  let x := if back then c.b else c.a
  let y := if back then c.a else c.b
  let en := endOf t.sq t.fl t.da
  if (decide (c.st < 1) || decide (4 < c.st)) then (c, false)
  else if ((y.seen && flag t.fl 16) && less y.e t.ak) then (c, false)
  else if ((!(flag t.fl 16) && !(flag t.fl 2)) && !(flag t.fl 4)) then (c, false)
  else if flag t.fl 2 then synced c back (flag t.fl 1) (flag t.fl 4) (flag t.fl 16) t.ak t.wi t.da en
  else if !x.seen then (if ((flag t.fl 4 && flag t.fl 16) && (t.ak == y.e)) then ({ c with st := 5 }, true) else (c, false))
  else if less x.m en then (c, false)
  else if less t.sq ((x.e - 65536) % 4294967296) then (c, false)
  else
    let x' : Sd := { x with e := later x.e en, fin := (x.fin || flag t.fl 1) }
    let y' : Sd := { y with m := grant y.seen (flag t.fl 16) y.m t.ak t.wi }
    let a' := if back then y' else x'
    let b' := if back then x' else y'
    let s1 := if (((c.st == 2) && flag t.fl 16) && !back) then 3 else c.st
    let s2 := if (a'.fin || b'.fin) then 4 else s1
    (⟨if flag t.fl 4 then 5 else s2, a', b'⟩, true)
end Go.Proofs.Ytainkpgplmkiaaa.WinModel
