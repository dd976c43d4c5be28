/- The law TopGroups holds, and its card: where a key's route leads to a group, it goes to one of the group's hops; a hop that is lost gets nothing more. It holds of all arguments that can be read, where the listed variables of the library hold what the text lays; its arguments read behind the call as they did. -/
import Derived.Test.YtkggjjnhnjjokaaGreatDoorRows
import Derived.Test.YtkggjjnhnjjokaaGreatDoorC7
import Derived.Test.YtkggjjnhnjjokaaGreatDoorC2
import Derived.Test.YtkggjjnhnjjokaaGreatDoorC6
import Derived.Test.YtkggjjnhnjjokaaGreatDoorTie
import Derived.Test.YtkggjjnhnjjokaaGreatDoorCards
import Derived.Lib.LaidTab
import Derived.Lib.LaidU8
set_option maxRecDepth 20000
set_option linter.unusedSimpArgs false
set_option linter.unusedVariables false
namespace Go.Proofs.YtkggjjnhnjjokaaGreatDoor
open Go.aA Go.Kb Go.ChangeShapes Go.WideShapes Go.ChangeAt Go.RowKit
def yg:List (String×DataW Unit):=[("unicode/utf8.acceptRanges",Rows.laid_unicode_utf8_acceptRanges),("unicode/utf8.first",Rows.laid_unicode_utf8_first)]
theorem acB{W:World}(hs:W.ShapedOpen Tryz.prog)(_h:laidMetH Tryz.prog yg W):kz W:=⟨Tryz.QX.s1_3 W hs⟩
theorem Tryz.own:ownKnob Tryz.prog.godebug=none:=by kernel_rfl
theorem Tryz.laidOut:laidOutB Tryz.prog=true:=by kernel_rfl
set_option maxRecDepth 100000 in
theorem acC{H:Type}{enc:TypeId×Value->H}(W:World)(base:Nat)(vs:List Value)(hs:W.ShapedOpen Tryz.prog)(hL:laidMetH Tryz.prog yg W)(hl:vs.length=6)(h: ∀(j:Nat) t v,Tryz.f3.params[j]? =some t->vs[j]? =some v->Arg H enc Tryz.prog W base t v):
  Calls Tryz.prog 3 vs.toArray W fun e W'=>e= .returned (.bool true)/\Mem W [] W':=by
 rw[Tryz.params3]at h;obtain⟨v0,v1,v2,v3,v4,v5,rfl⟩:=OQ hl;obtain⟨x0,rfl,g0⟩:=(h 0 22 v0 rfl rfl).sl Tryz.underlying22 Rt;obtain⟨x1,rfl,g1⟩:=(h 1 23 v1 rfl rfl).sl Tryz.underlying23 Gp;obtain⟨x2,rfl,-⟩:=(h 2 25 v2 rfl rfl).agg (inferInstance:dG Tryz.prog 25 _) Key;obtain⟨x3,rfl,b3⟩:=ach (t:=3) Tryz.underlying3 (h 3 3 v3 rfl rfl).ok;obtain⟨x4,rfl⟩:=acj (t:=26) Tryz.underlying26 (h 4 26 v4 rfl rfl).ok;obtain⟨x5,rfl⟩:=aci (t:=27) Tryz.underlying27 (h 5 27 v5 rfl rfl).ok;exact ace W (tb:=acB hs hL) x0.sv x0.xs x1 x2 x3 x4 x5 g0.1 g1
set_option maxRecDepth 100000 in
theorem acD(os:Os)(started:os.Started)(H:Type)(enc:TypeId×Value->H):
  ReturnsInHanded {} Tryz.checked os 3 .any (fun w args=>(Rows.topGroupsSpec.pre enc Tryz.prog Tryz.f3 Rows.topGroupsRow.domain false w args/\laidMetH Tryz.prog yg w)/\sizedMet enc Tryz.prog Tryz.f3 (OpenSpec.ofChange Rows.topGroupsSpec) false w args) (Rows.topGroupsSpec.post enc Tryz.prog Tryz.f3 false true false false):=
 acv (C:=Tryz.checked) (laid:=yg) Tryz.own started (by kernel_rfl) Tryz.func3
  (ChangeSpec.witness_shaped (enc:=enc) (C:=Tryz.checked) (os:=os) (X:=fun w _=>laidMetH Tryz.prog yg w) false (World.laidAll Tryz.prog os yg) #[.slice none 0 0, .slice none 0 0, .agg #[.int .u8 0, .int .u8 0, .int .u8 0, .int .u8 0, .int .u8 0, .int .u8 0, .int .u8 0, .int .u8 0, .int .u8 0, .int .u8 0, .int .u8 0, .int .u8 0, .int .u8 0, .int .u8 0, .int .u8 0, .int .u8 0], .int .i64 0, .int .u32 0, .int .u16 0] 24 (World.laidAll_os _ _ _)
   (World.shaped_of_ZipB (by kernel_rfl) (by kernel_rfl)) (by kernel_rfl) (by kernel_rfl) (by kernel_rfl)
   (by rw[MakeChecks.laidMetH_plain _ _ _ (by kernel_rfl)];exact laidMet_laidAll _ (by kernel_rfl) (by kernel_rfl)))
  Tryz.laidOut (by kernel_rfl) rfl Tryz.underlying4 rfl (fun ds hd=>by obtain⟨d0,d1,d2,d3,d4,d5,rfl⟩:=OQ (hd.trans (by kernel_rfl));rfl)
  (fun W base vs hs hL hl h=>acC W base vs hs hL (hl.trans (by kernel_rfl)) h)
theorem acE:Tryz.prog.inPlace 3=Rows.topGroupsRow.inPlace:=by kernel_rfl
theorem acF:Tryz.prog.unfollowed 3=Rows.topGroupsRow.unfollowed:=by kernel_rfl
theorem acG:Tryz.prog.recurses 3=Rows.topGroupsRow.recurses:=by kernel_rfl
theorem acH:Tryz.prog.varsNamed 3=Rows.topGroupsRow.named:=by kernel_rfl
theorem acI:joinedFacts Tryz.prog 3 Tryz.f3 Rows.topGroupsSpec Rows.topGroupsRow=true:=by
 unfold joinedFacts;rw[acE,acF,acG,acH];kernel_rfl
theorem acJ:Rows.TopGroupsSaid:=
 OpenClaim.holds_of_wide 3 Tryz.f3 rfl rfl rfl rfl rfl rfl rfl ⟨rfl,rfl,rfl,rfl,rfl⟩ rfl rfl rfl rfl rfl (by kernel_rfl) Tryz.func3 acI
  (of_decide_eq_true (by kernel_rfl)) (by unfold Func.isWrapper;first|(rw[if_pos (by decide+kernel)];kernel_rfl)|(rw[if_neg (by decide+kernel)];exact⟨rfl,rfl⟩))
  (fun os started H enc _=>acD os started H enc)
theorem acK:Rows.topGroupsRow.wfByText (OpenSpec.ofChange Rows.topGroupsSpec)=true:=by kernel_rfl
theorem acL:Tryz.prog.mainIs=some (true, "52e7e4c474082fcaf5d11505ba5fca5241dca959981d0ff9b7a78ac1e7b0d2be".toList):=by kernel_rfl
theorem acM:Tryz.prog.funcNamed "byway/bywaytop.TopGroups" =some 3:=by kernel_rfl
theorem acN:true=Tryz.prog.looks []:=by kernel_rfl
theorem acO:false=Rows.topGroupsRow.goesBy Tryz.prog:=by kernel_rfl
theorem acP:Tryz.prog.wantsStandIn 3=false:=by kernel_rfl
theorem acQ:Tryz.prog.wantsStandIn 22=false:=by kernel_rfl
theorem acR:Tryz.prog.wantsStandIn 23=false:=by kernel_rfl
theorem acS:Tryz.prog.wantsStandIn 25=false:=by kernel_rfl
theorem acT:Tryz.prog.wantsStandIn 26=false:=by kernel_rfl
theorem acU:Tryz.prog.wantsStandIn 27=false:=by kernel_rfl
theorem topGroups_holds:Rows.TopGroupsCardSaid:=
 Claim7.holds_tied_plain_at .later [] [.data, .pinned] true (true, "52e7e4c474082fcaf5d11505ba5fca5241dca959981d0ff9b7a78ac1e7b0d2be") true
  acJ (fun _ h=>by cases h) acK (fun _ h=>by cases h) topGroups_row_tie rfl ⟨rfl,rfl⟩ acL rfl
  (fun f fn hf Ap=>by
   obtain rfl:f=3:=Option.some.inj (acM.symm.trans hf)|>.symm;obtain rfl:fn=Tryz.f3:=(Option.some.inj (Tryz.func3.symm.trans Ap)).symm;exact⟨acN,fun j t ht=>by
    rw[Tryz.params3]at ht;have hm:t∈[22,23,25,3,26,27]:=by
     obtain⟨hj,e⟩:=Array.getElem?_eq_some_iff.1 ht;rw[←e];exact Array.mem_toList_iff.2 (Array.getElem_mem hj)
    simp only[List.mem_cons,List.not_mem_nil,or_false]at hm;rcases hm with rfl|rfl|rfl|rfl|rfl|rfl
    ·
     exact acQ
    ·
     exact acR
    ·
     exact acS
    ·
     exact acP
    ·
     exact acT
    exact acU⟩)
  acO
end Go.Proofs.YtkggjjnhnjjokaaGreatDoor
