/- The law TopLean holds, and its card: a fib with a lean table finds where every key leads as one with the whole table does; and a lean table has room wherever the whole one has. It holds of all arguments that can be read, where the listed variables of the library hold what the text lays; its arguments read behind the call as they did. -/
import Derived.Test.YtkggjjnhnjjokaaGreatDoorRows
import Derived.Test.YtkggjjnhnjjokaaGreatDoorA8
import Derived.Test.YtkggjjnhnjjokaaGreatDoorA2
import Derived.Test.YtkggjjnhnjjokaaGreatDoorTie
import Derived.Test.YtkggjjnhnjjokaaGreatDoorCards
import Derived.Lib.LaidTab
import Derived.Lib.LaidU8
set_option maxRecDepth 20000
set_option linter.unusedSimpArgs false
set_option linter.unusedVariables false
namespace Go.Proofs.YtkggjjnhnjjokaaGreatDoor
open Go.ax Go.Kb Go.ChangeShapes Go.WideShapes Go.ChangeAt Go.RowKit
def Cz:List (String×DataW Unit):=[("unicode/utf8.acceptRanges",Rows.laid_unicode_utf8_acceptRanges),("unicode/utf8.first",Rows.laid_unicode_utf8_first)]
theorem ajS{W:World}(hs:W.ShapedOpen Tryz.prog)(_h:laidMetH Tryz.prog Cz W):rQ W:=⟨Tryz.ZC.s1_3 W hs⟩
theorem Tryz.own:ownKnob Tryz.prog.godebug=none:=by kernel_rfl
theorem Tryz.laidOut:laidOutB Tryz.prog=true:=by kernel_rfl
set_option maxRecDepth 100000 in
theorem ajT{H:Type}{enc:TypeId×Value->H}(W:World)(base:Nat)(vs:List Value)(hs:W.ShapedOpen Tryz.prog)(hL:laidMetH Tryz.prog Cz W)(hl:vs.length=5)(h: ∀(j:Nat) t v,Tryz.f5.params[j]? =some t->vs[j]? =some v->Arg H enc Tryz.prog W base t v):
  Calls Tryz.prog 5 vs.toArray W fun e W'=>e= .returned (.bool true)/\Mem W [] W':=by
 rw[Tryz.params5]at h;obtain⟨v0,v1,v2,v3,v4,rfl⟩:=XL hl;obtain⟨x0,rfl⟩:=XM (t:=5) Tryz.underlying5 (h 0 5 v0 rfl rfl).ok;obtain⟨x1,rfl⟩:=XM (t:=5) Tryz.underlying5 (h 1 5 v1 rfl rfl).ok;obtain⟨x2,rfl,g2⟩:=(h 2 22 v2 rfl rfl).sl Tryz.underlying22 Rt;obtain⟨x3,rfl,-⟩:=(h 3 25 v3 rfl rfl).agg (inferInstance:fE Tryz.prog 25 _) Key;obtain⟨x4,rfl,b4⟩:=ajB (t:=3) Tryz.underlying3 (h 4 3 v4 rfl rfl).ok;exact ajx W (tb:=ajS hs hL) x0 x1 x2.sv x2.xs x3 x4 g2.1
set_option maxRecDepth 100000 in
theorem ajU(os:Os)(started:os.Started)(H:Type)(enc:TypeId×Value->H):
  ReturnsInHanded {} Tryz.checked os 5 .any (fun w args=>(Rows.topLeanSpec.pre enc Tryz.prog Tryz.f5 Rows.topLeanRow.domain false w args/\laidMetH Tryz.prog Cz w)/\sizedMet enc Tryz.prog Tryz.f5 (OpenSpec.ofChange Rows.topLeanSpec) false w args) (Rows.topLeanSpec.post enc Tryz.prog Tryz.f5 false true false false):=
 ajM (C:=Tryz.checked) (laid:=Cz) Tryz.own started (by kernel_rfl) Tryz.func5
  (ChangeSpec.witness_shaped (enc:=enc) (C:=Tryz.checked) (os:=os) (X:=fun w _=>laidMetH Tryz.prog Cz w) false (World.laidAll Tryz.prog os Cz) #[.int .u8 0, .int .u8 0, .slice none 0 0, .agg #[.int .u8 0, .int .u8 0, .int .u8 0, .int .u8 0, .int .u8 0, .int .u8 0, .int .u8 0, .int .u8 0, .int .u8 0, .int .u8 0, .int .u8 0, .int .u8 0, .int .u8 0, .int .u8 0, .int .u8 0, .int .u8 0], .int .i64 0] 24 (World.laidAll_os _ _ _)
   (World.shaped_of_ZipB (by kernel_rfl) (by kernel_rfl)) (by kernel_rfl) (by kernel_rfl) (by kernel_rfl)
   (by rw[MakeChecks.laidMetH_plain _ _ _ (by kernel_rfl)];exact laidMet_laidAll _ (by kernel_rfl) (by kernel_rfl)))
  Tryz.laidOut (by kernel_rfl) rfl Tryz.underlying4 rfl (fun ds hd=>by obtain⟨d0,d1,d2,d3,d4,rfl⟩:=XL (hd.trans (by kernel_rfl));rfl)
  (fun W base vs hs hL hl h=>ajT W base vs hs hL (hl.trans (by kernel_rfl)) h)
theorem ajV:Tryz.prog.inPlace 5=Rows.topLeanRow.inPlace:=by kernel_rfl
theorem ajW:Tryz.prog.unfollowed 5=Rows.topLeanRow.unfollowed:=by kernel_rfl
theorem ajX:Tryz.prog.recurses 5=Rows.topLeanRow.recurses:=by kernel_rfl
theorem ajY:Tryz.prog.varsNamed 5=Rows.topLeanRow.named:=by kernel_rfl
theorem ajZ:joinedFacts Tryz.prog 5 Tryz.f5 Rows.topLeanSpec Rows.topLeanRow=true:=by
 unfold joinedFacts;rw[ajV,ajW,ajX,ajY];kernel_rfl
theorem aj0:Rows.TopLeanSaid:=
 OpenClaim.holds_of_wide 5 Tryz.f5 rfl rfl rfl rfl rfl rfl rfl ⟨rfl,rfl,rfl,rfl,rfl⟩ rfl rfl rfl rfl rfl (by kernel_rfl) Tryz.func5 ajZ
  (of_decide_eq_true (by kernel_rfl)) (by unfold Func.isWrapper;first|(rw[if_pos (by decide+kernel)];kernel_rfl)|(rw[if_neg (by decide+kernel)];exact⟨rfl,rfl⟩))
  (fun os started H enc _=>ajU os started H enc)
theorem aj1:Rows.topLeanRow.wfByText (OpenSpec.ofChange Rows.topLeanSpec)=true:=by kernel_rfl
theorem aj2:Tryz.prog.mainIs=some (true, "52e7e4c474082fcaf5d11505ba5fca5241dca959981d0ff9b7a78ac1e7b0d2be".toList):=by kernel_rfl
theorem aj3:Tryz.prog.funcNamed "byway/bywaytop.TopLean" =some 5:=by kernel_rfl
theorem aj4:true=Tryz.prog.looks []:=by kernel_rfl
theorem aj5:false=Rows.topLeanRow.goesBy Tryz.prog:=by kernel_rfl
theorem aj6:Tryz.prog.wantsStandIn 3=false:=by kernel_rfl
theorem XS:Tryz.prog.wantsStandIn 5=false:=by kernel_rfl
theorem aj7:Tryz.prog.wantsStandIn 22=false:=by kernel_rfl
theorem aj8:Tryz.prog.wantsStandIn 25=false:=by kernel_rfl
theorem topLean_holds:Rows.TopLeanCardSaid:=
 Claim7.holds_tied_plain_at .later [] [.data, .pinned] true (true, "52e7e4c474082fcaf5d11505ba5fca5241dca959981d0ff9b7a78ac1e7b0d2be") true
  aj0 (fun _ h=>by cases h) aj1 (fun _ h=>by cases h) topLean_row_tie rfl ⟨rfl,rfl⟩ aj2 rfl
  (fun f fn hf EZ=>by
   obtain rfl:f=5:=asY (aj3.symm.trans hf)|>.symm;obtain rfl:fn=Tryz.f5:=(asY (Tryz.func5.symm.trans EZ)).symm;exact⟨aj4,fun j t ht=>by
    rw[Tryz.params5]at ht;have hm:t∈[5,5,22,25,3]:=by
     obtain⟨hj,e⟩:=auC.1 ht;rw[←e];exact Array.mem_toList_iff.2 (Array.getElem_mem hj)
    simp only[as2,avt,or_false]at hm;rcases hm with rfl|rfl|rfl|rfl|rfl
    ·
     exact XS
    ·
     exact XS
    ·
     exact aj7
    ·
     exact aj8
    exact aj6⟩)
  aj5
end Go.Proofs.YtkggjjnhnjjokaaGreatDoor
