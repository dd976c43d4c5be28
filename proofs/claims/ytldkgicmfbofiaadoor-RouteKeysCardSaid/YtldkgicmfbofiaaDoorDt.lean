/- The types that reach memory. -/
import Derived.Test.YtldkgicmfbofiaaDoorDp
import Derived.Test.YtldkgicmfbofiaaDoorRt
set_option linter.unusedSimpArgs false
set_option linter.unusedVariables false
namespace Go.Kb
open Go.Eng

/-- An item: an id and its body. -/
structure It where
  id : Int
  body : Sl UInt8
def icells (x : It) : Array Value := #[.int .i64 x.id, x.body.sv.val]
instance : Enc icells 2 := ⟨fun _ => rfl, fun x => by
  have h1 : (Value.int .i64 x.id).oneCell' = true := rfl
  simp only [icells, List.all_toArray, List.all_cons, List.all_nil, Sv.one, h1, Bool.and_self]⟩
instance (x : It) : CellAt (icells x) 0 (.int .i64 x.id) := ⟨rfl⟩
instance (x : It) : CellAt (icells x) 1 x.body.sv.val := ⟨rfl⟩
instance : Deep It where
  c := 2
  cells := icells
  size := Enc.size
  one := Enc.one
  good h x := Deep.good h x.body
  ent x := Deep.ent x.body
  good_of h x hs := Deep.good_of h x.body hs
  mono w w' x := Deep.mono w w' x.body
instance : FlatT It icells 2 := ⟨rfl, fun _ => rfl⟩
instance {w0 : World} {L : List Ent} {x : It} [q : HdD w0 L x] : HdD w0 L x.body := ⟨q.h⟩
instance {L R : List Ent} {x : It} [k : Take L x.body R] : Take L x R := ⟨k.h⟩
instance {L R : List Ent} {i : Int} {b : Sl UInt8} [k : Take L b R] : Take L (It.mk i b) R := ⟨k.h⟩
/-- What the items tell. -/
def its (a : Sl It) : List (Int × List UInt8) := a.xs.map fun x => (x.id, x.body.xs)
end Go.Kb
