/- The law TopRange holds, and its card: routes for all keys from one to another one, in a trie, lead there just what is in it; without one more prefix, that one no more. It holds of all arguments that can be read, where the listed variables of the library hold what the text lays; its arguments read behind the call as they did. -/
import Derived.Test.YtkggjjnhnjjokaaGreatDoorRows
import Derived.Test.YtkggjjnhnjjokaaGreatDoorF7
import Derived.Test.YtkggjjnhnjjokaaGreatDoorF2
import Derived.Test.YtkggjjnhnjjokaaGreatDoorTie
import Derived.Test.YtkggjjnhnjjokaaGreatDoorCards
import Derived.Lib.LaidTab
import Derived.Lib.LaidU8
set_option maxRecDepth 20000
set_option linter.unusedSimpArgs false
set_option linter.unusedVariables false
namespace Go.Proofs.YtkggjjnhnjjokaaGreatDoor
open Go.au Go.Kb Go.ChangeShapes Go.WideShapes Go.ChangeAt Go.RowKit
def z1:List (String×DataW Unit):=[("unicode/utf8.acceptRanges",Rows.laid_unicode_utf8_acceptRanges),("unicode/utf8.first",Rows.laid_unicode_utf8_first)]
theorem ad0{W:World}(hs:W.ShapedOpen Tryz.prog)(_h:laidMetH Tryz.prog z1 W):pB W:=⟨Tryz.T4.s1_3 W hs⟩
theorem Tryz.own:ownKnob Tryz.prog.godebug=none:=by kernel_rfl
theorem Tryz.laidOut:laidOutB Tryz.prog=true:=by kernel_rfl
set_option maxRecDepth 100000 in
theorem ad1{H:Type}{enc:TypeId×Value->H}(W:World)(base:Nat)(vs:List Value)(hs:W.ShapedOpen Tryz.prog)(hL:laidMetH Tryz.prog z1 W)(hl:vs.length=5)(h: ∀(j:Nat) t v,Tryz.f4.params[j]? =some t->vs[j]? =some v->Arg H enc Tryz.prog W base t v):
  Calls Tryz.prog 4 vs.toArray W fun e W'=>e= .returned (.bool true)/\Mem W [] W':=by
 rw[Tryz.params4]at h;obtain⟨v0,v1,v2,v3,v4,rfl⟩:=R6 hl;obtain⟨x0,rfl,b0⟩:=adO (t:=3) Tryz.underlying3 (h 0 3 v0 rfl rfl).ok;obtain⟨x1,rfl,-⟩:=(h 1 25 v1 rfl rfl).agg (inferInstance:eu Tryz.prog 25 _) Key;obtain⟨x2,rfl,-⟩:=(h 2 25 v2 rfl rfl).agg (inferInstance:eu Tryz.prog 25 _) Key;obtain⟨x3,rfl,-⟩:=(h 3 25 v3 rfl rfl).agg (inferInstance:eu Tryz.prog 25 _) Key;obtain⟨x4,rfl⟩:=adP (t:=27) Tryz.underlying27 (h 4 27 v4 rfl rfl).ok;exact adJ W (tb:=ad0 hs hL) x0 x1 x2 x3 x4
set_option maxRecDepth 100000 in
theorem ad3(os:Os)(started:os.Started)(H:Type)(enc:TypeId×Value->H):
  ReturnsInHanded {} Tryz.checked os 4 .any (fun w args=>(Rows.topRangeSpec.pre enc Tryz.prog Tryz.f4 Rows.topRangeRow.domain false w args/\laidMetH Tryz.prog z1 w)/\sizedMet enc Tryz.prog Tryz.f4 (OpenSpec.ofChange Rows.topRangeSpec) false w args) (Rows.topRangeSpec.post enc Tryz.prog Tryz.f4 false true false false):=
 adU (C:=Tryz.checked) (laid:=z1) Tryz.own started (by kernel_rfl) Tryz.func4
  (ChangeSpec.witness_shaped (enc:=enc) (C:=Tryz.checked) (os:=os) (X:=fun w _=>laidMetH Tryz.prog z1 w) false (World.laidAll Tryz.prog os z1) #[.int .i64 0, .agg #[.int .u8 0, .int .u8 0, .int .u8 0, .int .u8 0, .int .u8 0, .int .u8 0, .int .u8 0, .int .u8 0, .int .u8 0, .int .u8 0, .int .u8 0, .int .u8 0, .int .u8 0, .int .u8 0, .int .u8 0, .int .u8 0], .agg #[.int .u8 0, .int .u8 0, .int .u8 0, .int .u8 0, .int .u8 0, .int .u8 0, .int .u8 0, .int .u8 0, .int .u8 0, .int .u8 0, .int .u8 0, .int .u8 0, .int .u8 0, .int .u8 0, .int .u8 0, .int .u8 0], .agg #[.int .u8 0, .int .u8 0, .int .u8 0, .int .u8 0, .int .u8 0, .int .u8 0, .int .u8 0, .int .u8 0, .int .u8 0, .int .u8 0, .int .u8 0, .int .u8 0, .int .u8 0, .int .u8 0, .int .u8 0, .int .u8 0], .int .u16 0] 24 (World.laidAll_os _ _ _)
   (World.shaped_of_ZipB (by kernel_rfl) (by kernel_rfl)) (by kernel_rfl) (by kernel_rfl) (by kernel_rfl)
   (by rw[MakeChecks.laidMetH_plain _ _ _ (by kernel_rfl)];exact laidMet_laidAll _ (by kernel_rfl) (by kernel_rfl)))
  Tryz.laidOut (by kernel_rfl) rfl Tryz.underlying4 rfl (fun ds hd=>by obtain⟨d0,d1,d2,d3,d4,rfl⟩:=R6 (hd.trans (by kernel_rfl));rfl)
  (fun W base vs hs hL hl h=>ad1 W base vs hs hL (hl.trans (by kernel_rfl)) h)
theorem ad4:Tryz.prog.inPlace 4=Rows.topRangeRow.inPlace:=by kernel_rfl
theorem ad5:Tryz.prog.unfollowed 4=Rows.topRangeRow.unfollowed:=by kernel_rfl
theorem ad6:Tryz.prog.recurses 4=Rows.topRangeRow.recurses:=by kernel_rfl
theorem ad7:Tryz.prog.varsNamed 4=Rows.topRangeRow.named:=by kernel_rfl
theorem ad8:joinedFacts Tryz.prog 4 Tryz.f4 Rows.topRangeSpec Rows.topRangeRow=true:=by
 unfold joinedFacts;rw[ad4,ad5,ad6,ad7];kernel_rfl
theorem ad9:Rows.TopRangeSaid:=
 OpenClaim.holds_of_wide 4 Tryz.f4 rfl rfl rfl rfl rfl rfl rfl ⟨rfl,rfl,rfl,rfl,rfl⟩ rfl rfl rfl rfl rfl (by kernel_rfl) Tryz.func4 ad8
  (of_decide_eq_true (by kernel_rfl)) (by unfold Func.isWrapper;first|(rw[if_pos (by decide+kernel)];kernel_rfl)|(rw[if_neg (by decide+kernel)];exact⟨rfl,rfl⟩))
  (fun os started H enc _=>ad3 os started H enc)
theorem aea:Rows.topRangeRow.wfByText (OpenSpec.ofChange Rows.topRangeSpec)=true:=by kernel_rfl
theorem aeb:Tryz.prog.mainIs=some (true, "52e7e4c474082fcaf5d11505ba5fca5241dca959981d0ff9b7a78ac1e7b0d2be".toList):=by kernel_rfl
theorem aec:Tryz.prog.funcNamed "byway/bywaytop.TopRange" =some 4:=by kernel_rfl
theorem aed:true=Tryz.prog.looks []:=by kernel_rfl
theorem aee:false=Rows.topRangeRow.goesBy Tryz.prog:=by kernel_rfl
theorem aef:Tryz.prog.wantsStandIn 3=false:=by kernel_rfl
theorem Ke:Tryz.prog.wantsStandIn 25=false:=by kernel_rfl
theorem aeg:Tryz.prog.wantsStandIn 27=false:=by kernel_rfl
theorem topRange_holds:Rows.TopRangeCardSaid:=
 Claim7.holds_tied_plain_at .later [] [.data, .pinned] true (true, "52e7e4c474082fcaf5d11505ba5fca5241dca959981d0ff9b7a78ac1e7b0d2be") true
  ad9 (fun _ h=>by cases h) aea (fun _ h=>by cases h) topRange_row_tie rfl ⟨rfl,rfl⟩ aeb rfl
  (fun f fn hf Cg=>by
   obtain rfl:f=4:=ani (aec.symm.trans hf)|>.symm;obtain rfl:fn=Tryz.f4:=(ani (Tryz.func4.symm.trans Cg)).symm;exact⟨aed,fun j t ht=>by
    rw[Tryz.params4]at ht;have hm:t∈[3,25,25,25,27]:=by
     obtain⟨hj,e⟩:=aoN.1 ht;rw[←e];exact Array.mem_toList_iff.2 (Array.getElem_mem hj)
    simp only[ank,ap6,or_false]at hm;rcases hm with rfl|rfl|rfl|rfl|rfl
    ·
     exact aef
    ·
     exact Ke
    ·
     exact Ke
    ·
     exact Ke
    exact aeg⟩)
  aee
end Go.Proofs.YtkggjjnhnjjokaaGreatDoor
