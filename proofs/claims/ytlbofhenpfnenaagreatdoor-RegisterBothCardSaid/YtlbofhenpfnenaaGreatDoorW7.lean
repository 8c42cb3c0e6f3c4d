/- Part 7 of the proof: its lemmas. No condition. -/
import Derived.Test.YtlbofhenpfnenaaGreatDoorW5
import Derived.Test.YtlbofhenpfnenaaGreatDoorW6
import Derived.Test.YtlbofhenpfnenaaGreatDoorProg
import Derived.KernelRfl
import Derived.Lib.LaidTab
import Derived.Lib.ItoaNum
set_option maxRecDepth 10000
set_option maxHeartbeats 80000000
set_option linter.all false
open Go Go.Proofs Go.RowKit
namespace Qv
def aap (w:World):Prop:=Lib.TabIs Tryz.prog w "internal/strconv.uint64pow10" .u64 Lib.pow10Tab
theorem HY:Tryz.prog.globalNamed "internal/strconv.uint64pow10" =some 1:=kK
theorem QA (w w':World)(h:∀k,k<4->w'.heap[k]?=w.heap[k]?)(hJ:aap w):aap w':=by unfold aap Lib.TabIs at*;rw[<-hJ];simp only[World.var?,HY,nL,h 1 dD]
abbrev v8:Value:=.int .u8 0
def js:List (TypeId×jL):=[(3,⟨1,8,.int .i64,[.int .i64 0]⟩),(4,⟨1,1,.bool,[.bool false]⟩),(33,⟨33,40,.struct [(0,31),(32,3)],[v8,v8,v8,v8,v8,v8,v8,v8,v8,v8,v8,v8,v8,v8,v8,v8,v8,v8,v8,v8,v8,v8,v8,v8,v8,v8,v8,v8,v8,v8,v8,v8,.int .i64 0]⟩),(9,⟨1,16,.str,[.string ⟨#[]⟩]⟩),(45,⟨1,24,.slice 48,[.slice none 0 0]⟩),(23,⟨1,24,.slice 92,[.slice none 0 0]⟩),(43,⟨1,24,.slice 33,[.slice none 0 0]⟩),(31,⟨32,32,.array 32 5,[v8,v8,v8,v8,v8,v8,v8,v8,v8,v8,v8,v8,v8,v8,v8,v8,v8,v8,v8,v8,v8,v8,v8,v8,v8,v8,v8,v8,v8,v8,v8,.int .u8 0]⟩),(164,⟨1,4,.int .u32,[.int .u32 0]⟩),(48,⟨172,296,.struct [(0,33),(33,3),(34,33),(67,3),(68,33),(101,9),(102,3),(103,9),(104,9),(105,33),(138,33),(171,43)],[v8,v8,v8,v8,v8,v8,v8,v8,v8,v8,v8,v8,v8,v8,v8,v8,v8,v8,v8,v8,v8,v8,v8,v8,v8,v8,v8,v8,v8,v8,v8,v8,.int .i64 0,.int .i64 0,v8,v8,v8,v8,v8,v8,v8,v8,v8,v8,v8,v8,v8,v8,v8,v8,v8,v8,v8,v8,v8,v8,v8,v8,v8,v8,v8,v8,v8,v8,v8,v8,.int .i64 0,.int .i64 0,v8,v8,v8,v8,v8,v8,v8,v8,v8,v8,v8,v8,v8,v8,v8,v8,v8,v8,v8,v8,v8,v8,v8,v8,v8,v8,v8,v8,v8,v8,v8,v8,.int .i64 0,.string ⟨#[]⟩,.int .i64 0,.string ⟨#[]⟩,.string ⟨#[]⟩,v8,v8,v8,v8,v8,v8,v8,v8,v8,v8,v8,v8,v8,v8,v8,v8,v8,v8,v8,v8,v8,v8,v8,v8,v8,v8,v8,v8,v8,v8,v8,v8,.int .i64 0,v8,v8,v8,v8,v8,v8,v8,v8,v8,v8,v8,v8,v8,v8,v8,v8,v8,v8,v8,v8,v8,v8,v8,v8,v8,v8,v8,v8,v8,v8,v8,v8,.int .i64 0,.slice none 0 0]⟩),(38,⟨1,24,.slice 31,[.slice none 0 0]⟩),(63,⟨1,8,.int .i64,[.int .i64 0]⟩),(89,⟨139,264,.struct [(0,3),(1,33),(34,3),(35,33),(68,9),(69,3),(70,9),(71,33),(104,33),(137,87),(138,43)],[.int .i64 0,v8,v8,v8,v8,v8,v8,v8,v8,v8,v8,v8,v8,v8,v8,v8,v8,v8,v8,v8,v8,v8,v8,v8,v8,v8,v8,v8,v8,v8,v8,v8,v8,.int .i64 0,.int .i64 0,v8,v8,v8,v8,v8,v8,v8,v8,v8,v8,v8,v8,v8,v8,v8,v8,v8,v8,v8,v8,v8,v8,v8,v8,v8,v8,v8,v8,v8,v8,v8,v8,.int .i64 0,.string ⟨#[]⟩,.int .i64 0,.string ⟨#[]⟩,v8,v8,v8,v8,v8,v8,v8,v8,v8,v8,v8,v8,v8,v8,v8,v8,v8,v8,v8,v8,v8,v8,v8,v8,v8,v8,v8,v8,v8,v8,v8,v8,.int .i64 0,v8,v8,v8,v8,v8,v8,v8,v8,v8,v8,v8,v8,v8,v8,v8,v8,v8,v8,v8,v8,v8,v8,v8,v8,v8,v8,v8,v8,v8,v8,v8,v8,.int .i64 0,.slice none 0 0,.slice none 0 0]⟩),(41,⟨5,88,.struct [(0,9),(1,9),(2,3),(3,38),(4,39)],[.string ⟨#[]⟩,.string ⟨#[]⟩,.int .i64 0,.slice none 0 0,.slice none 0 0]⟩),(190,⟨1,24,.slice 192,[.slice none 0 0]⟩),(192,⟨3,48,.struct [(0,4),(1,9),(2,190)],[.bool false,.string ⟨#[]⟩,.slice none 0 0]⟩),(5,⟨1,1,.int .u8,[.int .u8 0]⟩),(87,⟨1,24,.slice 9,[.slice none 0 0]⟩),(39,⟨1,24,.slice 89,[.slice none 0 0]⟩),(26,⟨1,24,.slice 55,[.slice none 0 0]⟩),(165,⟨8,32,.array 8 164,[.int .u32 0,.int .u32 0,.int .u32 0,.int .u32 0,.int .u32 0,.int .u32 0,.int .u32 0,.int .u32 0]⟩),(183,⟨1,24,.slice 5,[.slice none 0 0]⟩),(55,⟨35,72,.struct [(0,3),(1,33),(34,43)],[.int .i64 0,v8,v8,v8,v8,v8,v8,v8,v8,v8,v8,v8,v8,v8,v8,v8,v8,v8,v8,v8,v8,v8,v8,v8,v8,v8,v8,v8,v8,v8,v8,v8,v8,.int .i64 0,.slice none 0 0]⟩),(100,⟨1,8,.func,[.nilFunc]⟩),(92,⟨37,120,.struct [(0,31),(32,41)],[v8,v8,v8,v8,v8,v8,v8,v8,v8,v8,v8,v8,v8,v8,v8,v8,v8,v8,v8,v8,v8,v8,v8,v8,v8,v8,v8,v8,v8,v8,v8,v8,.string ⟨#[]⟩,.string ⟨#[]⟩,.int .i64 0,.slice none 0 0,.slice none 0 0]⟩),(201,⟨64,256,.array 64 164,List.replicate 64 (.int .u32 0)⟩),(168,⟨1,8,.int .u64,[.int .u64 0]⟩),(271,⟨1,24,.slice 3,[.slice none 0 0]⟩),(109,⟨7,104,.struct [(0,23),(1,45),(2,104),(3,45),(4,105),(5,106),(6,107)],[.slice none 0 0,.slice none 0 0,.map none,.slice none 0 0,.map none,.map none,.map none]⟩),(104,⟨1,8,.map 33 4,[.map none]⟩),(228,⟨1,8,.map 31 38,[.map none]⟩),(241,⟨1,8,.map 31 4,[.map none]⟩),(243,⟨1,24,.slice 246,[.slice none 0 0]⟩),(246,⟨34,48,.struct [(0,33),(33,100)],[v8,v8,v8,v8,v8,v8,v8,v8,v8,v8,v8,v8,v8,v8,v8,v8,v8,v8,v8,v8,v8,v8,v8,v8,v8,v8,v8,v8,v8,v8,v8,v8,.int .i64 0,.nilFunc]⟩),(277,⟨1,8,.ptr 279,[.pointer none]⟩),(153,⟨1,8,.map 33 43,[.map none]⟩),(69,⟨1,24,.slice 73,[.slice none 0 0]⟩),(249,⟨1,8,.map 3 251,[.map none]⟩),(75,⟨1,8,.func,[.nilFunc]⟩),(200,⟨1,8,.int .u64,[.int .u64 0]⟩),(73,⟨36,80,.struct [(0,33),(33,3),(34,4),(35,71)],[v8,v8,v8,v8,v8,v8,v8,v8,v8,v8,v8,v8,v8,v8,v8,v8,v8,v8,v8,v8,v8,v8,v8,v8,v8,v8,v8,v8,v8,v8,v8,v8,.int .i64 0,.int .i64 0,.bool false,.slice none 0 0]⟩),(293,⟨1,8,.ptr 295,[.pointer none]⟩),(247,⟨1,8,.func,[.nilFunc]⟩),(105,⟨1,8,.map 33 45,[.map none]⟩),(78,⟨1,8,.func,[.nilFunc]⟩),(81,⟨1,8,.func,[.nilFunc]⟩),(71,⟨1,24,.slice 124,[.slice none 0 0]⟩),(273,⟨1,8,.func,[.nilFunc]⟩),(275,⟨1,8,.func,[.nilFunc]⟩),(295,⟨2,16,.struct [(0,3),(1,4)],[.int .i64 0,.bool false]⟩),(29,⟨1,2,.int .u16,[.int .u16 0]⟩),(111,⟨1,8,.func,[.nilFunc]⟩),(187,⟨1,8,.func,[.nilFunc]⟩),(292,⟨1,8,.map 3 3,[.map none]⟩),(79,⟨1,8,.func,[.nilFunc]⟩),(158,⟨1,8,.func,[.nilFunc]⟩),(90,⟨1,8,.func,[.nilFunc]⟩),(118,⟨1,8,.func,[.nilFunc]⟩),(144,⟨1,8,.func,[.nilFunc]⟩),(52,⟨4,6,.struct [(0,29),(1,29),(2,5),(3,5)],[.int .u16 0,.int .u16 0,.int .u8 0,.int .u8 0]⟩),(179,⟨1,8,.func,[.nilFunc]⟩),(156,⟨1,8,.func,[.nilFunc]⟩),(110,⟨1,8,.func,[.nilFunc]⟩),(56,⟨1,8,.func,[.nilFunc]⟩),(254,⟨1,8,.func,[.nilFunc]⟩),(266,⟨1,8,.func,[.nilFunc]⟩),(160,⟨1,8,.func,[.nilFunc]⟩),(216,⟨1,8,.func,[.nilFunc]⟩),(219,⟨1,8,.func,[.nilFunc]⟩),(279,⟨2,32,.struct [(0,277),(1,183)],[.pointer none,.slice none 0 0]⟩),(50,⟨1,8,.func,[.nilFunc]⟩),(51,⟨4,6,.struct [(0,29),(1,29),(2,5),(3,5)],[.int .u16 0,.int .u16 0,.int .u8 0,.int .u8 0]⟩),(298,⟨1,16,.iface,[.nilIface]⟩),(124,⟨67,96,.struct [(0,33),(33,33),(66,9)],[v8,v8,v8,v8,v8,v8,v8,v8,v8,v8,v8,v8,v8,v8,v8,v8,v8,v8,v8,v8,v8,v8,v8,v8,v8,v8,v8,v8,v8,v8,v8,v8,.int .i64 0,v8,v8,v8,v8,v8,v8,v8,v8,v8,v8,v8,v8,v8,v8,v8,v8,v8,v8,v8,v8,v8,v8,v8,v8,v8,v8,v8,v8,v8,v8,v8,v8,.int .i64 0,.string ⟨#[]⟩]⟩),(74,⟨1,8,.func,[.nilFunc]⟩),(125,⟨1,8,.func,[.nilFunc]⟩),(46,⟨1,8,.func,[.nilFunc]⟩),(117,⟨1,8,.func,[.nilFunc]⟩),(108,⟨7,104,.struct [(0,23),(1,45),(2,104),(3,45),(4,105),(5,106),(6,107)],[.slice none 0 0,.slice none 0 0,.map none,.slice none 0 0,.map none,.map none,.map none]⟩),(49,⟨1,8,.func,[.nilFunc]⟩),(178,⟨1,8,.func,[.nilFunc]⟩),(218,⟨1,8,.func,[.nilFunc]⟩),(53,⟨1,8,.func,[.nilFunc]⟩),(149,⟨1,8,.func,[.nilFunc]⟩),(72,⟨36,80,.struct [(0,33),(33,3),(34,4),(35,71)],[v8,v8,v8,v8,v8,v8,v8,v8,v8,v8,v8,v8,v8,v8,v8,v8,v8,v8,v8,v8,v8,v8,v8,v8,v8,v8,v8,v8,v8,v8,v8,v8,.int .i64 0,.int .i64 0,.bool false,.slice none 0 0]⟩),(76,⟨1,8,.func,[.nilFunc]⟩),(77,⟨1,8,.func,[.nilFunc]⟩),(91,⟨37,120,.struct [(0,31),(32,41)],[v8,v8,v8,v8,v8,v8,v8,v8,v8,v8,v8,v8,v8,v8,v8,v8,v8,v8,v8,v8,v8,v8,v8,v8,v8,v8,v8,v8,v8,v8,v8,v8,.string ⟨#[]⟩,.string ⟨#[]⟩,.int .i64 0,.slice none 0 0,.slice none 0 0]⟩),(94,⟨1,8,.func,[.nilFunc]⟩),(120,⟨1,8,.func,[.nilFunc]⟩),(150,⟨1,8,.func,[.nilFunc]⟩),(159,⟨1,8,.func,[.nilFunc]⟩),(177,⟨1,8,.func,[.nilFunc]⟩),(206,⟨1,8,.func,[.nilFunc]⟩),(215,⟨1,8,.func,[.nilFunc]⟩),(207,⟨1,8,.func,[.nilFunc]⟩),(210,⟨1,8,.func,[.nilFunc]⟩),(217,⟨1,8,.func,[.nilFunc]⟩),(251,⟨1,8,.func,[.nilFunc]⟩),(238,⟨1,8,.func,[.nilFunc]⟩),(240,⟨1,8,.func,[.nilFunc]⟩),(209,⟨1,8,.func,[.nilFunc]⟩),(169,⟨1,8,.func,[.nilFunc]⟩),(255,⟨1,8,.func,[.nilFunc]⟩),(253,⟨1,8,.func,[.nilFunc]⟩),(57,⟨1,8,.func,[.nilFunc]⟩),(54,⟨35,72,.struct [(0,3),(1,33),(34,43)],[.int .i64 0,v8,v8,v8,v8,v8,v8,v8,v8,v8,v8,v8,v8,v8,v8,v8,v8,v8,v8,v8,v8,v8,v8,v8,v8,v8,v8,v8,v8,v8,v8,v8,v8,.int .i64 0,.slice none 0 0]⟩),(22,⟨1,24,.slice 92,[.slice none 0 0]⟩),(30,⟨32,32,.array 32 5,[v8,v8,v8,v8,v8,v8,v8,v8,v8,v8,v8,v8,v8,v8,v8,v8,v8,v8,v8,v8,v8,v8,v8,v8,v8,v8,v8,v8,v8,v8,v8,.int .u8 0]⟩),(32,⟨33,40,.struct [(0,31),(32,3)],[v8,v8,v8,v8,v8,v8,v8,v8,v8,v8,v8,v8,v8,v8,v8,v8,v8,v8,v8,v8,v8,v8,v8,v8,v8,v8,v8,v8,v8,v8,v8,v8,.int .i64 0]⟩),(40,⟨5,88,.struct [(0,9),(1,9),(2,3),(3,38),(4,39)],[.string ⟨#[]⟩,.string ⟨#[]⟩,.int .i64 0,.slice none 0 0,.slice none 0 0]⟩),(47,⟨172,296,.struct [(0,33),(33,3),(34,33),(67,3),(68,33),(101,9),(102,3),(103,9),(104,9),(105,33),(138,33),(171,43)],[v8,v8,v8,v8,v8,v8,v8,v8,v8,v8,v8,v8,v8,v8,v8,v8,v8,v8,v8,v8,v8,v8,v8,v8,v8,v8,v8,v8,v8,v8,v8,v8,.int .i64 0,.int .i64 0,v8,v8,v8,v8,v8,v8,v8,v8,v8,v8,v8,v8,v8,v8,v8,v8,v8,v8,v8,v8,v8,v8,v8,v8,v8,v8,v8,v8,v8,v8,v8,v8,.int .i64 0,.int .i64 0,v8,v8,v8,v8,v8,v8,v8,v8,v8,v8,v8,v8,v8,v8,v8,v8,v8,v8,v8,v8,v8,v8,v8,v8,v8,v8,v8,v8,v8,v8,v8,v8,.int .i64 0,.string ⟨#[]⟩,.int .i64 0,.string ⟨#[]⟩,.string ⟨#[]⟩,v8,v8,v8,v8,v8,v8,v8,v8,v8,v8,v8,v8,v8,v8,v8,v8,v8,v8,v8,v8,v8,v8,v8,v8,v8,v8,v8,v8,v8,v8,v8,v8,.int .i64 0,v8,v8,v8,v8,v8,v8,v8,v8,v8,v8,v8,v8,v8,v8,v8,v8,v8,v8,v8,v8,v8,v8,v8,v8,v8,v8,v8,v8,v8,v8,v8,v8,.int .i64 0,.slice none 0 0]⟩),(88,⟨139,264,.struct [(0,3),(1,33),(34,3),(35,33),(68,9),(69,3),(70,9),(71,33),(104,33),(137,87),(138,43)],[.int .i64 0,v8,v8,v8,v8,v8,v8,v8,v8,v8,v8,v8,v8,v8,v8,v8,v8,v8,v8,v8,v8,v8,v8,v8,v8,v8,v8,v8,v8,v8,v8,v8,v8,.int .i64 0,.int .i64 0,v8,v8,v8,v8,v8,v8,v8,v8,v8,v8,v8,v8,v8,v8,v8,v8,v8,v8,v8,v8,v8,v8,v8,v8,v8,v8,v8,v8,v8,v8,v8,v8,.int .i64 0,.string ⟨#[]⟩,.int .i64 0,.string ⟨#[]⟩,v8,v8,v8,v8,v8,v8,v8,v8,v8,v8,v8,v8,v8,v8,v8,v8,v8,v8,v8,v8,v8,v8,v8,v8,v8,v8,v8,v8,v8,v8,v8,v8,.int .i64 0,v8,v8,v8,v8,v8,v8,v8,v8,v8,v8,v8,v8,v8,v8,v8,v8,v8,v8,v8,v8,v8,v8,v8,v8,v8,v8,v8,v8,v8,v8,v8,v8,.int .i64 0,.slice none 0 0,.slice none 0 0]⟩),(106,⟨1,8,.map 33 339,[.map none]⟩),(107,⟨1,8,.map 339 43,[.map none]⟩),(339,⟨34,56,.struct [(0,33),(33,9)],[v8,v8,v8,v8,v8,v8,v8,v8,v8,v8,v8,v8,v8,v8,v8,v8,v8,v8,v8,v8,v8,v8,v8,v8,v8,v8,v8,v8,v8,v8,v8,v8,.int .i64 0,.string ⟨#[]⟩]⟩)]
theorem agR:∀t i,(t,i)∈js->fL Tryz.prog t i:=by intro t i h;simp only[js,aG,Prod.mk.injEq,fQ,or_false]at h;rcases h with⟨rfl,rfl⟩|⟨rfl,rfl⟩|⟨rfl,rfl⟩|⟨rfl,rfl⟩|⟨rfl,rfl⟩|⟨rfl,rfl⟩|⟨rfl,rfl⟩|⟨rfl,rfl⟩|⟨rfl,rfl⟩|⟨rfl,rfl⟩|⟨rfl,rfl⟩|⟨rfl,rfl⟩|⟨rfl,rfl⟩|⟨rfl,rfl⟩|⟨rfl,rfl⟩|⟨rfl,rfl⟩|⟨rfl,rfl⟩|⟨rfl,rfl⟩|⟨rfl,rfl⟩|⟨rfl,rfl⟩|⟨rfl,rfl⟩|⟨rfl,rfl⟩|⟨rfl,rfl⟩|⟨rfl,rfl⟩|⟨rfl,rfl⟩|⟨rfl,rfl⟩|⟨rfl,rfl⟩|⟨rfl,rfl⟩|⟨rfl,rfl⟩|⟨rfl,rfl⟩|⟨rfl,rfl⟩|⟨rfl,rfl⟩|⟨rfl,rfl⟩|⟨rfl,rfl⟩|⟨rfl,rfl⟩|⟨rfl,rfl⟩|⟨rfl,rfl⟩|⟨rfl,rfl⟩|⟨rfl,rfl⟩|⟨rfl,rfl⟩|⟨rfl,rfl⟩|⟨rfl,rfl⟩|⟨rfl,rfl⟩|⟨rfl,rfl⟩|⟨rfl,rfl⟩|⟨rfl,rfl⟩|⟨rfl,rfl⟩|⟨rfl,rfl⟩|⟨rfl,rfl⟩|⟨rfl,rfl⟩|⟨rfl,rfl⟩|⟨rfl,rfl⟩|⟨rfl,rfl⟩|⟨rfl,rfl⟩|⟨rfl,rfl⟩|⟨rfl,rfl⟩|⟨rfl,rfl⟩|⟨rfl,rfl⟩|⟨rfl,rfl⟩|⟨rfl,rfl⟩|⟨rfl,rfl⟩|⟨rfl,rfl⟩|⟨rfl,rfl⟩|⟨rfl,rfl⟩|⟨rfl,rfl⟩|⟨rfl,rfl⟩|⟨rfl,rfl⟩|⟨rfl,rfl⟩|⟨rfl,rfl⟩|⟨rfl,rfl⟩|⟨rfl,rfl⟩|⟨rfl,rfl⟩|⟨rfl,rfl⟩|⟨rfl,rfl⟩|⟨rfl,rfl⟩|⟨rfl,rfl⟩|⟨rfl,rfl⟩|⟨rfl,rfl⟩|⟨rfl,rfl⟩|⟨rfl,rfl⟩|⟨rfl,rfl⟩|⟨rfl,rfl⟩|⟨rfl,rfl⟩|⟨rfl,rfl⟩|⟨rfl,rfl⟩|⟨rfl,rfl⟩|⟨rfl,rfl⟩|⟨rfl,rfl⟩|⟨rfl,rfl⟩|⟨rfl,rfl⟩|⟨rfl,rfl⟩|⟨rfl,rfl⟩|⟨rfl,rfl⟩|⟨rfl,rfl⟩|⟨rfl,rfl⟩|⟨rfl,rfl⟩|⟨rfl,rfl⟩|⟨rfl,rfl⟩|⟨rfl,rfl⟩|⟨rfl,rfl⟩|⟨rfl,rfl⟩|⟨rfl,rfl⟩|⟨rfl,rfl⟩|⟨rfl,rfl⟩|⟨rfl,rfl⟩|⟨rfl,rfl⟩|⟨rfl,rfl⟩|⟨rfl,rfl⟩|⟨rfl,rfl⟩|⟨rfl,rfl⟩|⟨rfl,rfl⟩|⟨rfl,rfl⟩|⟨rfl,rfl⟩|⟨rfl,rfl⟩|⟨rfl,rfl⟩|⟨rfl,rfl⟩;all_goals exact⟨kK,kK,kK⟩
noncomputable def C:Ctx:=⟨Tryz.prog,js,agR,aap,4,rfl,279,5,QA,[],{opens:=[],Be:=[],full:=false}⟩
end Qv
open Go Go.RowKit
namespace Qv
abbrev Dg:={l:Bytes//l.length=32}
def bz:Dg:=⟨List.replicate 32 0,rfl⟩
instance:Inhabited Dg:=⟨bz⟩
structure bf where
 p:Dg
 n:Int deriving DecidableEq,Inhabited
structure bw where
 id:bf
 kind:Int
 file:bf
 type:Int
 parent:bf
 name:Bytes
 mode:Int
 data:Bytes
 text:Bytes
 fr:bf
 to:bf
 over:List bf deriving DecidableEq,Inhabited
structure ew where
 kind:Int
 file:bf
 type:Int
 parent:bf
 name:Bytes
 mode:Int
 data:Bytes
 dc:bf
 dy:bf
 lines:List Bytes
 over:List bf deriving DecidableEq,Inhabited
structure fW where
 eV:Bytes
 message:Bytes
 time:Int
 deps:List Dg
 changes:List ew deriving DecidableEq,Inhabited
structure bK where
 id:Dg
 pat:fW deriving DecidableEq,Inhabited
def cD (d:Dg):List AV:=[.int .u8 (d.1.getD 0 0).toNat,.int .u8 (d.1.getD 1 0).toNat,.int .u8 (d.1.getD 2 0).toNat,.int .u8 (d.1.getD 3 0).toNat,.int .u8 (d.1.getD 4 0).toNat,.int .u8 (d.1.getD 5 0).toNat,.int .u8 (d.1.getD 6 0).toNat,.int .u8 (d.1.getD 7 0).toNat,.int .u8 (d.1.getD 8 0).toNat,.int .u8 (d.1.getD 9 0).toNat,.int .u8 (d.1.getD 10 0).toNat,.int .u8 (d.1.getD 11 0).toNat,.int .u8 (d.1.getD 12 0).toNat,.int .u8 (d.1.getD 13 0).toNat,.int .u8 (d.1.getD 14 0).toNat,.int .u8 (d.1.getD 15 0).toNat,.int .u8 (d.1.getD 16 0).toNat,.int .u8 (d.1.getD 17 0).toNat,.int .u8 (d.1.getD 18 0).toNat,.int .u8 (d.1.getD 19 0).toNat,.int .u8 (d.1.getD 20 0).toNat,.int .u8 (d.1.getD 21 0).toNat,.int .u8 (d.1.getD 22 0).toNat,.int .u8 (d.1.getD 23 0).toNat,.int .u8 (d.1.getD 24 0).toNat,.int .u8 (d.1.getD 25 0).toNat,.int .u8 (d.1.getD 26 0).toNat,.int .u8 (d.1.getD 27 0).toNat,.int .u8 (d.1.getD 28 0).toNat,.int .u8 (d.1.getD 29 0).toNat,.int .u8 (d.1.getD 30 0).toNat,.int .u8 (d.1.getD 31 0).toNat]
def cI (x:bf):List AV:=cD x.p++[.int .i64 x.n]
def iS (l:List bf):List (List AV):=l.map cI
def jJ (l:List Dg):List (List AV):=l.map cD
def cA (a:bw):List AV:=cI a.id++([.int .i64 a.kind]++(cI a.file++([.int .i64 a.type]++(cI a.parent++([.str a.name,.int .i64 a.mode,.str a.data,.str a.text]++(cI a.fr++(cI a.to++[.sl (iS a.over)])))))))
def fH (l:List bw):List (List AV):=l.map cA
def cC (c:ew):List AV:=[.int .i64 c.kind]++(cI c.file++([.int .i64 c.type]++(cI c.parent++([.str c.name,.int .i64 c.mode,.str c.data]++(cI c.dc++(cI c.dy++[Gn c.lines,.sl (iS c.over)]))))))
def yo (l:List ew):List (List AV):=l.map cC
def cP (p:fW):List AV:=[.str p.eV,.str p.message,.int .i64 p.time,.sl (jJ p.deps),.sl (yo p.changes)]
def mO (s:bK):List AV:=cD s.id++cP s.pat
def cU (s:List bK):List (List AV):=s.map mO
theorem agS (a:bw):(cA a).length=172:=rfl
theorem HZ (d:Dg):cD d=(List.range 32).map λi=>.int .u8 (d.1.getD i 0).toNat:=rfl
theorem Ia (d:Dg):cD d=d.1.map λb=>.int .u8 b.toNat:=by rw[HZ];refine fP λi=>?_;rw[aM,aM];have hd:=d.2;by_cases h:i<32;rw[wT h,aq oO];simp[List.getD,aq (show i<d.1.length by omega)];rw[nN (by simp;omega),nN oO];rfl
theorem FD:∀{a b c d:List AV},a.length=b.length->sameAs (a++c) (b++d)=(sameAs a b&&sameAs c d)
 |[],[],c,d,_=>by simp[sameAs]
 |x::a,y::b,c,d,h=>by have ih:=FD (a:=a) (b:=b) (c:=c) (d:=d) (by simpa using h);simp only[dZ,sameAs,ih,Bool.and_assoc]
 |[],_::_,_,_,h=>by simp at h
 |_::_,[],_,_,h=>by simp at h
theorem Da:∀a b:Bytes,sameAs (a.map λb=>.int .u8 b.toNat) (b.map λb=>.int .u8 b.toNat)=decide (a=b)
 |[],[]=>rfl
 |[],y::b=>by simp[sameAs]
 |x::a,[]=>by simp[sameAs]
 |x::a,y::b=>by simp only[cE,sameAs,rX,AM,Zh,gT,jd,Da a b];rw[kg];simp only[aY,beq_iff_eq,decide_eq_true_eq,jV];constructor;rintro⟨h1,h2⟩;exact⟨aiI h1,h2⟩;rintro⟨rfl,rfl⟩;exact⟨rfl,rfl⟩
theorem Vx (a b:Dg):sameAs (cD a) (cD b)=decide (a=b):=by rw[Ia,Ia,Da];exact decide_eq_decide.2 ⟨λh=>Subtype.ext h,λh=>aS _ h⟩
theorem aaq (a b:bf):sameAs (cI a) (cI b)=decide (a=b):=by obtain⟨p,n⟩:=a;obtain⟨q,m⟩:=b;show sameAs (cD p++[.int .i64 n]) (cD q++[.int .i64 m])=_;rw[FD (show(cD p).length=(cD q).length from rfl),Vx];simp only[sameAs,rX,AM,Zh,gT,jd,Bool.and_true];rw[kg];simp[bf.mk.injEq]
theorem afZ (d:Dg){k:Nat}(h:k<32):aF (cD d)=(aF (cD d)).take k++([.p (.int .u8 (d.1.getD k 0).toNat)]++(aF (cD d)).drop (k+1))/\((aF (cD d)).take k).length=k:=by
 have hl:(aF (cD d)).length=32:=rfl;refine⟨?_,by rw[aH,hl];omega⟩;have h1:(aF (cD d))[k]?=some (.p (.int .u8 (d.1.getD k 0).toNat)):=by rw[tA,HZ,aM,wT h];rfl
 have h2:(aF (cD d)).drop k=.p (.int .u8 (d.1.getD k 0).toNat)::(aF (cD d)).drop (k+1):=by
  have hlt:k<(aF (cD d)).length:=by rw[hl];exact h
  rw[bQ hlt];congr 1;rw[aq hlt]at h1;exact an h1
 rw[gV,<-h2,dw]
def cmpL:Bytes->Bytes->Int|[],[]=>0|[],_::_=>-1|_::_,[]=>1|x::xs,y::ys=>if x.toNat<y.toNat then-1 else if y.toNat<x.toNat then 1 else cmpL xs ys
def eZ (a b:Dg):Int:=cmpL a.1 b.1
def fU (a b:bf):Int:=if eZ a.p b.p≠0 then eZ a.p b.p else if a.n<b.n then-1 else if b.n<a.n then 1 else 0
theorem Lm {l:Bytes}{k:Nat}(h:k<l.length):l.drop k=l.getD k 0::l.drop (k+1):=by rw[bQ h];simp[List.getD,aq h]
end Qv
open Go Go.Proofs Go.RowKit
namespace Qv
def yw:List gI:=[.int .u8,.int .u8,.int .u8,.int .u8,.int .u8,.int .u8,.int .u8,.int .u8,.int .u8,.int .u8,.int .u8,.int .u8,.int .u8,.int .u8,.int .u8,.int .u8,.int .u8,.int .u8,.int .u8,.int .u8,.int .u8,.int .u8,.int .u8,.int .u8,.int .u8,.int .u8,.int .u8,.int .u8,.int .u8,.int .u8,.int .u8,.int .u8]
def yx:List gI:=yw++[.int .i64]
theorem dR:eM Tryz.prog 40 31=some yw:=kK
theorem ek:eM Tryz.prog 40 33=some yx:=kK
theorem kP:Tryz.prog.eqGuardType Tryz.prog.depth 31=false:=kK
theorem ad6:Tryz.prog.eqGuardType Tryz.prog.depth 33=false:=kK
theorem rB {xs ys:List AV}{K:Prop}(h:K)(e1:fB yx xs=true:=by rfl)(e2:fB yx ys=true:=by rfl):∃L,eM Tryz.prog 40 33=some L/\Tryz.prog.eqGuardType Tryz.prog.depth 33=false/\fB L xs=true/\fB L ys=true/\K:=⟨yx,ek,ad6,e1,e2,h⟩
theorem Ib {a b:Dg}{K:Bool->Prop}(h:K (decide (a=b))):Al λt:Bool=>t=sameAs (cD a) (cD b)->K t:=⟨λt ht=>by rw[ht,Vx];exact h⟩
theorem jK {a b:bf}{K:Bool->Prop}(h:K (decide (a=b))):Al λt:Bool=>t=sameAs (cI a) (cI b)->K t:=⟨λt ht=>by rw[ht,aaq];exact h⟩
theorem QB {a b:Dg}{K:Bool->Prop}(h:K (!decide (a=b))):Al λt:Bool=>t=!sameAs (cD a) (cD b)->K t:=⟨λt ht=>by rw[ht,Vx];exact h⟩
theorem FE {a b:bf}{K:Bool->Prop}(h:K (!decide (a=b))):Al λt:Bool=>t=!sameAs (cI a) (cI b)->K t:=⟨λt ht=>by rw[ht,aaq];exact h⟩
theorem wU (d:Dg):aj C 103 [.agg (cD d)] (λr=>r=.val (.bool (decide (d=bz)))):=by refine ag Tryz.func103 rfl rfl rfl ?_;refine⟨yw,dR,kP,rfl,rfl,?_⟩;refine Ib (a:=d) (b:=bz) ?_;exact rfl
theorem pz (a b:Dg):aj C 66 [.agg (cD a),.agg (cD b)] (λr=>r=.val (.int .i64 (eZ a b))):=by
 refine ag Tryz.func66 rfl rfl rfl ?_;refine bI 24 (λk:Nat=>[(2,.ptr 2 0),(3,.ptr 3 0),(5,.p (.int .i64 k))]) (λ_=>[(2,aF (cD a)),(3,aF (cD b))]) (λk=>k<=32/\cmpL (a.1.drop k) (b.1.drop k)=eZ a b) (λk=>32-k) 0 ⟨oO,by simp[eZ]⟩ rfl wS oS ?_;rintro k ⟨hk,hc⟩;have ha:=a.2;have hb:=b.2;refine az (λhlt=>?_) (λhge=>?_);have hlt:k<32:=oO
 obtain⟨a1,a2⟩:=afZ a hlt;obtain⟨b1,b2⟩:=afZ b hlt;rw[Lm (l:=a.1) (k:=k) oO,Lm (l:=b.1) (k:=k) oO]at hc;generalize a.1.getD k 0=x at a1 hc;generalize b.1.getD k 0=y at b1 hc;have hc:(if x.toNat<y.toNat then-1 else if y.toNat<x.toNat then 1 else cmpL (a.1.drop (k+1)) (b.1.drop (k+1)))=eZ a b:=hc;refine cG 7 kK ?_;refine⟨k,rfl,hlt,true,k,(by show 0+k*1=k;omega),?_⟩;refine⟨_,_,_,a1,a2,?_⟩;refine⟨k,rfl,hlt,true,k,(by show 0+k*1=k;omega),?_⟩;refine⟨_,_,_,b1,b2,?_⟩;refine az (λh=>?_) (λh=>?_);rw[af oO]at hc;rw[<-hc];exact rfl;rw[aa oO]at hc;refine cG 7 kK ?_;refine⟨k,rfl,hlt,true,k,(by show 0+k*1=k;omega),?_⟩;refine⟨_,_,_,a1,a2,?_⟩;refine⟨k,rfl,hlt,true,k,(by show 0+k*1=k;omega),?_⟩;refine⟨_,_,_,b1,b2,?_⟩;refine az (λh=>?_) (λh=>?_);rw[af oO]at hc;rw[<-hc];exact rfl;rw[aa oO]at hc;exact nx (k+1) (aU (k+1) ⟨hlt,hc⟩ oO rfl wS oS);obtain rfl:k=32:=oO
 rw[dG oO,dG oO]at hc;rw[<-hc];exact rfl
theorem zi (a b:bf):aj C 50 [.agg (cI a),.agg (cI b)] (λr=>r=.val (.int .i64 (fU a b))):=by refine ag Tryz.func50 rfl rfl rfl ?_;refine cl (pz a.p b.p) ?_;unfold fU;generalize eZ a.p b.p=c;refine cS (λh=>?_) (λh=>?_);rw[af h];exact rfl;rw[aa oO];refine az (λh=>?_) (λh=>?_);rw[af h];exact rfl;rw[aa h];refine az (λh=>?_) (λh=>?_);rw[af oO];exact rfl;rw[aa oO];exact rfl
end Qv
