/- Contracts as classes. -/
import Derived.Test.YtembaconocgmlaaLaid
import Derived.Test.YtembaconocgmlaaRight
import Derived.Test.YtembaconocgmlaaDt
import Derived.Test.YtembaconocgmlaaPl
import Derived.Test.YtembaconocgmlaaLn
set_option linter.unusedSimpArgs false
set_option linter.unusedVariables false
namespace Go.Proofs.Ytembaconocgmlaa
open Go.Eng Go.Kb
instance right_i {w0 : World} {L : List Ent} {s : Sv} {ss : List Rt} [h : HdE w0 L rcells 19 s ss] : FnQ Try.prog 61 w0 L [s.val] (.bool (tright ss)) True := ⟨fun _ w hw => right_c w s ss (h.h w hw)⟩
instance rright_i {w0 : World} {L : List Ent} {s : Sv} {ss : List Rt} [h : HdE w0 L rcells 19 s ss] : FnQ Try.prog 74 w0 L [s.val] (.bool (tright ss)) True := ⟨fun _ w hw => rright_c w s ss (h.h w hw)⟩
instance same3_i {w0 : World} {L : List Ent} {s t : Sv} {ss ts : List Rt} [h : HdE w0 L rcells 19 s ss] [h2 : HdE w0 L rcells 19 t ts] : FnQ Try.prog 50 w0 L [s.val, t.val] (.bool (decide (ss = ts))) (ss.length < 9223372036854775807) := ⟨fun hp w hw => same3_c w s t ss ts (h.h w hw) (h2.h w hw) hp⟩
instance get_i {w0 : World} {L : List Ent} {s : Sv} {ss : List UInt8} [h : HdE w0 L benc 1 s ss] : FnQ Try.prog 69 w0 L [s.val] (.int .u64 (de ss : Nat)) (ss.length ≤ 7) := ⟨fun hp w hw => get_c w s ss (h.h w hw) hp⟩
instance put_i {w0 : World} {L : List Ent} {n many : Nat} : FnC Try.prog 68 w0 L [.int .u64 (n : Nat), .int .i64 (many : Nat)] Sv (fun s => s.val) (fun s => own benc 1 s (be n many) :: L) (fun _ => True) (n < 2 ^ 64 ∧ 1 ≤ many ∧ many ≤ 8) := ⟨fun hp w hw => (put_c w n many hp.1 hp.2).mono fun e w' ⟨s, h1, h2, h3, h4⟩ => ⟨s, h1, trivial, hw.call h4⟩⟩
instance rroute_i {w0 : World} {L : List Ent} {r : Rt} : FnC Try.prog 75 w0 L [.agg (rcells r)] Sv (fun s => s.val) (fun s => own benc 1 s (rbytes r) :: L) (fun _ => True) True := ⟨fun _ w hw => (rroute_c w r).mono fun e w' ⟨s, h1, h2, h3, h4⟩ => ⟨s, h1, trivial, hw.call h4⟩⟩

end Go.Proofs.Ytembaconocgmlaa
