/- Closed facts of the seat that each row asks for: the words of the program's head, read sign by sign; what follows of them. Conditions: as stated. -/
import Derived.Test.YtgngjfjaelgaeaaGreatDoorZRow
namespace Go.Proofs.YtgngjfjaelgaeaaGreatDoor
open Go.ChangeShapes Go.WideShapes Go.ChangeAt Go.RowKit Go.ChangeMaps
def AgU:List Nat:=[104,97,114,110,101,115,115,32,53,56,56,49,53,50,56,56,55,99,51,101,54,50,97,53,50,102,54,50,50,54,98,101,48,55,101,48,102,56,98,101,51,52,51,51,48,48,55,51,54,48,98,54,102,101,53,51,51,51,51,56,50,50,50,55,55,52,53,102,55,99,101,98,32,99,117,116,32,97,116,32,118,101,114,103,101,114,47,118,101,114,103,101,114,108,97,119,49,52,46,83,101,97,114,99,104,82,117,110,115,32,118,101,114,103,101,114,47,118,101,114,103,101,114,108,97,119,49,52,46,83,101,97,114,99,104,83,105,122,101,115,32,118,101,114,103,101,114,47,118,101,114,103,101,114,108,97,119,49,52,46,83,101,97,114,99,104,80,108,97,105,110,32,118,101,114,103,101,114,47,118,101,114,103,101,114,108,97,119,49,52,46,83,101,97,114,99,104,80,97,114,116,115]
def UK:List (List Nat):=[[104,97,114,110,101,115,115],[53,56,56,49,53,50,56,56,55,99,51,101,54,50,97,53,50,102,54,50,50,54,98,101,48,55,101,48,102,56,98,101,51,52,51,51,48,48,55,51,54,48,98,54,102,101,53,51,51,51,51,56,50,50,50,55,55,52,53,102,55,99,101,98],[99,117,116],[97,116],[118,101,114,103,101,114,47,118,101,114,103,101,114,108,97,119,49,52,46,83,101,97,114,99,104,82,117,110,115],[118,101,114,103,101,114,47,118,101,114,103,101,114,108,97,119,49,52,46,83,101,97,114,99,104,83,105,122,101,115],[118,101,114,103,101,114,47,118,101,114,103,101,114,108,97,119,49,52,46,83,101,97,114,99,104,80,108,97,105,110],[118,101,114,103,101,114,47,118,101,114,103,101,114,108,97,119,49,52,46,83,101,97,114,99,104,80,97,114,116,115]]
theorem Aau:Tryz.pinned.checked.prog.initOrder=String.ofList (AgU.map Char.ofNat):=by kernel_rfl
theorem Aav:wordsSigns Tryz.pinned.checked.prog.initOrder.toList=UK.map (·.map Char.ofNat):=by rw[Aau,String.toList_ofList];kernel_rfl
theorem NF:behindMainWord (wordsSigns Tryz.pinned.checked.prog.initOrder.toList)=[99,117,116].map Char.ofNat :: (UK.drop 3).map (·.map Char.ofNat):=by rw[Aav];kernel_rfl
theorem enters_of{P:Program}{c:List Char}{rest:List (List Char)}(h:behindMainWord (wordsSigns P.initOrder.toList)=c :: rest)(a:stripLifts liftWords (c :: rest)=([],c :: rest))
  (hc:(c== "cut".toList)=true)(b:P.laysLater=false)(d:P.bearsReflect=false)(hd:P.doorFits []=true):P.mayEnter=true:=by
 unfold Program.mayEnter;rw[h];dsimp only;rw[a];refine Bool.or_eq_true_iff.2 (.inr ?_);show ((some c==some "cut".toList)&&(false||!P.laysLater)&&(false||!P.bearsReflect)&&(false||!false)&&P.doorFits [])=true
 rw[b,d,hd,Option.some_beq_some,hc];rfl
theorem QT:stripLifts liftWords ([99,117,116].map Char.ofNat :: (UK.drop 3).map (·.map Char.ofNat))=([],[99,117,116].map Char.ofNat :: (UK.drop 3).map (·.map Char.ofNat)):=by kernel_rfl
theorem Uz:Tryz.pinned.checked.prog.mayEnter=true:=
 enters_of NF QT (by kernel_rfl) (by kernel_rfl) (by kernel_rfl) (by kernel_rfl)
theorem Ww:Tryz.pinned.checked.prog.liftsFinal=false:=by unfold Program.liftsFinal Program.headLifts;rw[NF,QT];kernel_rfl
theorem XZ:Tryz.pinned.checked.prog.make=some .cut:=by unfold Program.make;rw[NF];kernel_rfl
