/- Part 21 of the proof: its lemmas. No condition. -/
import Derived.Test.YtlbofhenpfnenaaGreatDoorU19
import Derived.Test.YtlbofhenpfnenaaGreatDoorU20
import Derived.Test.YtlbofhenpfnenaaGreatDoorProg
import Derived.KernelRfl
import Derived.Lib.LaidTab
import Derived.Lib.ItoaNum
set_option maxRecDepth 10000
set_option maxHeartbeats 80000000
set_option linter.all false
open Go Go.Proofs Go.RowKit
namespace Qv
def aaN (w:World):Prop:=Lib.TabIs Tryz.prog w "internal/strconv.uint64pow10" .u64 Lib.pow10Tab
theorem IM:Tryz.prog.globalNamed "internal/strconv.uint64pow10" =some 1:=kK
theorem Re (w w':World)(h:∀k,k<4->w'.heap[k]?=w.heap[k]?)(hJ:aaN w):aaN w':=by unfold aaN Lib.TabIs at*;rw[<-hJ];simp only[World.var?,IM,nR,h 1 dD]
abbrev v8:Value:=.int .u8 0
def jG:List (TypeId×jX):=[(3,⟨1,8,.int .i64,[.int .i64 0]⟩),(4,⟨1,1,.bool,[.bool false]⟩),(33,⟨33,40,.struct [(0,31),(32,3)],[v8,v8,v8,v8,v8,v8,v8,v8,v8,v8,v8,v8,v8,v8,v8,v8,v8,v8,v8,v8,v8,v8,v8,v8,v8,v8,v8,v8,v8,v8,v8,v8,.int .i64 0]⟩),(9,⟨1,16,.str,[.string ⟨#[]⟩]⟩),(45,⟨1,24,.slice 48,[.slice none 0 0]⟩),(23,⟨1,24,.slice 92,[.slice none 0 0]⟩),(43,⟨1,24,.slice 33,[.slice none 0 0]⟩),(31,⟨32,32,.array 32 5,[v8,v8,v8,v8,v8,v8,v8,v8,v8,v8,v8,v8,v8,v8,v8,v8,v8,v8,v8,v8,v8,v8,v8,v8,v8,v8,v8,v8,v8,v8,v8,.int .u8 0]⟩),(164,⟨1,4,.int .u32,[.int .u32 0]⟩),(48,⟨172,296,.struct [(0,33),(33,3),(34,33),(67,3),(68,33),(101,9),(102,3),(103,9),(104,9),(105,33),(138,33),(171,43)],[v8,v8,v8,v8,v8,v8,v8,v8,v8,v8,v8,v8,v8,v8,v8,v8,v8,v8,v8,v8,v8,v8,v8,v8,v8,v8,v8,v8,v8,v8,v8,v8,.int .i64 0,.int .i64 0,v8,v8,v8,v8,v8,v8,v8,v8,v8,v8,v8,v8,v8,v8,v8,v8,v8,v8,v8,v8,v8,v8,v8,v8,v8,v8,v8,v8,v8,v8,v8,v8,.int .i64 0,.int .i64 0,v8,v8,v8,v8,v8,v8,v8,v8,v8,v8,v8,v8,v8,v8,v8,v8,v8,v8,v8,v8,v8,v8,v8,v8,v8,v8,v8,v8,v8,v8,v8,v8,.int .i64 0,.string ⟨#[]⟩,.int .i64 0,.string ⟨#[]⟩,.string ⟨#[]⟩,v8,v8,v8,v8,v8,v8,v8,v8,v8,v8,v8,v8,v8,v8,v8,v8,v8,v8,v8,v8,v8,v8,v8,v8,v8,v8,v8,v8,v8,v8,v8,v8,.int .i64 0,v8,v8,v8,v8,v8,v8,v8,v8,v8,v8,v8,v8,v8,v8,v8,v8,v8,v8,v8,v8,v8,v8,v8,v8,v8,v8,v8,v8,v8,v8,v8,v8,.int .i64 0,.slice none 0 0]⟩),(38,⟨1,24,.slice 31,[.slice none 0 0]⟩),(63,⟨1,8,.int .i64,[.int .i64 0]⟩),(89,⟨139,264,.struct [(0,3),(1,33),(34,3),(35,33),(68,9),(69,3),(70,9),(71,33),(104,33),(137,87),(138,43)],[.int .i64 0,v8,v8,v8,v8,v8,v8,v8,v8,v8,v8,v8,v8,v8,v8,v8,v8,v8,v8,v8,v8,v8,v8,v8,v8,v8,v8,v8,v8,v8,v8,v8,v8,.int .i64 0,.int .i64 0,v8,v8,v8,v8,v8,v8,v8,v8,v8,v8,v8,v8,v8,v8,v8,v8,v8,v8,v8,v8,v8,v8,v8,v8,v8,v8,v8,v8,v8,v8,v8,v8,.int .i64 0,.string ⟨#[]⟩,.int .i64 0,.string ⟨#[]⟩,v8,v8,v8,v8,v8,v8,v8,v8,v8,v8,v8,v8,v8,v8,v8,v8,v8,v8,v8,v8,v8,v8,v8,v8,v8,v8,v8,v8,v8,v8,v8,v8,.int .i64 0,v8,v8,v8,v8,v8,v8,v8,v8,v8,v8,v8,v8,v8,v8,v8,v8,v8,v8,v8,v8,v8,v8,v8,v8,v8,v8,v8,v8,v8,v8,v8,v8,.int .i64 0,.slice none 0 0,.slice none 0 0]⟩),(41,⟨5,88,.struct [(0,9),(1,9),(2,3),(3,38),(4,39)],[.string ⟨#[]⟩,.string ⟨#[]⟩,.int .i64 0,.slice none 0 0,.slice none 0 0]⟩),(190,⟨1,24,.slice 192,[.slice none 0 0]⟩),(192,⟨3,48,.struct [(0,4),(1,9),(2,190)],[.bool false,.string ⟨#[]⟩,.slice none 0 0]⟩),(5,⟨1,1,.int .u8,[.int .u8 0]⟩),(87,⟨1,24,.slice 9,[.slice none 0 0]⟩),(39,⟨1,24,.slice 89,[.slice none 0 0]⟩),(26,⟨1,24,.slice 55,[.slice none 0 0]⟩),(165,⟨8,32,.array 8 164,[.int .u32 0,.int .u32 0,.int .u32 0,.int .u32 0,.int .u32 0,.int .u32 0,.int .u32 0,.int .u32 0]⟩),(183,⟨1,24,.slice 5,[.slice none 0 0]⟩),(55,⟨35,72,.struct [(0,3),(1,33),(34,43)],[.int .i64 0,v8,v8,v8,v8,v8,v8,v8,v8,v8,v8,v8,v8,v8,v8,v8,v8,v8,v8,v8,v8,v8,v8,v8,v8,v8,v8,v8,v8,v8,v8,v8,v8,.int .i64 0,.slice none 0 0]⟩),(100,⟨1,8,.func,[.nilFunc]⟩),(92,⟨37,120,.struct [(0,31),(32,41)],[v8,v8,v8,v8,v8,v8,v8,v8,v8,v8,v8,v8,v8,v8,v8,v8,v8,v8,v8,v8,v8,v8,v8,v8,v8,v8,v8,v8,v8,v8,v8,v8,.string ⟨#[]⟩,.string ⟨#[]⟩,.int .i64 0,.slice none 0 0,.slice none 0 0]⟩),(201,⟨64,256,.array 64 164,List.replicate 64 (.int .u32 0)⟩),(168,⟨1,8,.int .u64,[.int .u64 0]⟩),(271,⟨1,24,.slice 3,[.slice none 0 0]⟩),(109,⟨7,104,.struct [(0,23),(1,45),(2,104),(3,45),(4,105),(5,106),(6,107)],[.slice none 0 0,.slice none 0 0,.map none,.slice none 0 0,.map none,.map none,.map none]⟩),(104,⟨1,8,.map 33 4,[.map none]⟩),(228,⟨1,8,.map 31 38,[.map none]⟩),(241,⟨1,8,.map 31 4,[.map none]⟩),(243,⟨1,24,.slice 246,[.slice none 0 0]⟩),(246,⟨34,48,.struct [(0,33),(33,100)],[v8,v8,v8,v8,v8,v8,v8,v8,v8,v8,v8,v8,v8,v8,v8,v8,v8,v8,v8,v8,v8,v8,v8,v8,v8,v8,v8,v8,v8,v8,v8,v8,.int .i64 0,.nilFunc]⟩),(277,⟨1,8,.ptr 279,[.pointer none]⟩),(153,⟨1,8,.map 33 43,[.map none]⟩),(69,⟨1,24,.slice 73,[.slice none 0 0]⟩),(249,⟨1,8,.map 3 251,[.map none]⟩),(75,⟨1,8,.func,[.nilFunc]⟩),(200,⟨1,8,.int .u64,[.int .u64 0]⟩),(73,⟨36,80,.struct [(0,33),(33,3),(34,4),(35,71)],[v8,v8,v8,v8,v8,v8,v8,v8,v8,v8,v8,v8,v8,v8,v8,v8,v8,v8,v8,v8,v8,v8,v8,v8,v8,v8,v8,v8,v8,v8,v8,v8,.int .i64 0,.int .i64 0,.bool false,.slice none 0 0]⟩),(293,⟨1,8,.ptr 295,[.pointer none]⟩),(247,⟨1,8,.func,[.nilFunc]⟩),(105,⟨1,8,.map 33 45,[.map none]⟩),(78,⟨1,8,.func,[.nilFunc]⟩),(81,⟨1,8,.func,[.nilFunc]⟩),(71,⟨1,24,.slice 124,[.slice none 0 0]⟩),(273,⟨1,8,.func,[.nilFunc]⟩),(275,⟨1,8,.func,[.nilFunc]⟩),(295,⟨2,16,.struct [(0,3),(1,4)],[.int .i64 0,.bool false]⟩),(29,⟨1,2,.int .u16,[.int .u16 0]⟩),(111,⟨1,8,.func,[.nilFunc]⟩),(187,⟨1,8,.func,[.nilFunc]⟩),(292,⟨1,8,.map 3 3,[.map none]⟩),(79,⟨1,8,.func,[.nilFunc]⟩),(158,⟨1,8,.func,[.nilFunc]⟩),(90,⟨1,8,.func,[.nilFunc]⟩),(118,⟨1,8,.func,[.nilFunc]⟩),(144,⟨1,8,.func,[.nilFunc]⟩),(52,⟨4,6,.struct [(0,29),(1,29),(2,5),(3,5)],[.int .u16 0,.int .u16 0,.int .u8 0,.int .u8 0]⟩),(179,⟨1,8,.func,[.nilFunc]⟩),(156,⟨1,8,.func,[.nilFunc]⟩),(110,⟨1,8,.func,[.nilFunc]⟩),(56,⟨1,8,.func,[.nilFunc]⟩),(254,⟨1,8,.func,[.nilFunc]⟩),(266,⟨1,8,.func,[.nilFunc]⟩),(160,⟨1,8,.func,[.nilFunc]⟩),(216,⟨1,8,.func,[.nilFunc]⟩),(219,⟨1,8,.func,[.nilFunc]⟩),(279,⟨2,32,.struct [(0,277),(1,183)],[.pointer none,.slice none 0 0]⟩),(50,⟨1,8,.func,[.nilFunc]⟩),(51,⟨4,6,.struct [(0,29),(1,29),(2,5),(3,5)],[.int .u16 0,.int .u16 0,.int .u8 0,.int .u8 0]⟩),(298,⟨1,16,.iface,[.nilIface]⟩),(124,⟨67,96,.struct [(0,33),(33,33),(66,9)],[v8,v8,v8,v8,v8,v8,v8,v8,v8,v8,v8,v8,v8,v8,v8,v8,v8,v8,v8,v8,v8,v8,v8,v8,v8,v8,v8,v8,v8,v8,v8,v8,.int .i64 0,v8,v8,v8,v8,v8,v8,v8,v8,v8,v8,v8,v8,v8,v8,v8,v8,v8,v8,v8,v8,v8,v8,v8,v8,v8,v8,v8,v8,v8,v8,v8,v8,.int .i64 0,.string ⟨#[]⟩]⟩),(74,⟨1,8,.func,[.nilFunc]⟩),(125,⟨1,8,.func,[.nilFunc]⟩),(46,⟨1,8,.func,[.nilFunc]⟩),(117,⟨1,8,.func,[.nilFunc]⟩),(108,⟨7,104,.struct [(0,23),(1,45),(2,104),(3,45),(4,105),(5,106),(6,107)],[.slice none 0 0,.slice none 0 0,.map none,.slice none 0 0,.map none,.map none,.map none]⟩),(49,⟨1,8,.func,[.nilFunc]⟩),(178,⟨1,8,.func,[.nilFunc]⟩),(218,⟨1,8,.func,[.nilFunc]⟩),(53,⟨1,8,.func,[.nilFunc]⟩),(149,⟨1,8,.func,[.nilFunc]⟩),(72,⟨36,80,.struct [(0,33),(33,3),(34,4),(35,71)],[v8,v8,v8,v8,v8,v8,v8,v8,v8,v8,v8,v8,v8,v8,v8,v8,v8,v8,v8,v8,v8,v8,v8,v8,v8,v8,v8,v8,v8,v8,v8,v8,.int .i64 0,.int .i64 0,.bool false,.slice none 0 0]⟩),(76,⟨1,8,.func,[.nilFunc]⟩),(77,⟨1,8,.func,[.nilFunc]⟩),(91,⟨37,120,.struct [(0,31),(32,41)],[v8,v8,v8,v8,v8,v8,v8,v8,v8,v8,v8,v8,v8,v8,v8,v8,v8,v8,v8,v8,v8,v8,v8,v8,v8,v8,v8,v8,v8,v8,v8,v8,.string ⟨#[]⟩,.string ⟨#[]⟩,.int .i64 0,.slice none 0 0,.slice none 0 0]⟩),(94,⟨1,8,.func,[.nilFunc]⟩),(120,⟨1,8,.func,[.nilFunc]⟩),(150,⟨1,8,.func,[.nilFunc]⟩),(159,⟨1,8,.func,[.nilFunc]⟩),(177,⟨1,8,.func,[.nilFunc]⟩),(206,⟨1,8,.func,[.nilFunc]⟩),(215,⟨1,8,.func,[.nilFunc]⟩),(207,⟨1,8,.func,[.nilFunc]⟩),(210,⟨1,8,.func,[.nilFunc]⟩),(217,⟨1,8,.func,[.nilFunc]⟩),(251,⟨1,8,.func,[.nilFunc]⟩),(238,⟨1,8,.func,[.nilFunc]⟩),(240,⟨1,8,.func,[.nilFunc]⟩),(209,⟨1,8,.func,[.nilFunc]⟩),(169,⟨1,8,.func,[.nilFunc]⟩),(255,⟨1,8,.func,[.nilFunc]⟩),(253,⟨1,8,.func,[.nilFunc]⟩),(57,⟨1,8,.func,[.nilFunc]⟩),(54,⟨35,72,.struct [(0,3),(1,33),(34,43)],[.int .i64 0,v8,v8,v8,v8,v8,v8,v8,v8,v8,v8,v8,v8,v8,v8,v8,v8,v8,v8,v8,v8,v8,v8,v8,v8,v8,v8,v8,v8,v8,v8,v8,v8,.int .i64 0,.slice none 0 0]⟩),(22,⟨1,24,.slice 92,[.slice none 0 0]⟩),(30,⟨32,32,.array 32 5,[v8,v8,v8,v8,v8,v8,v8,v8,v8,v8,v8,v8,v8,v8,v8,v8,v8,v8,v8,v8,v8,v8,v8,v8,v8,v8,v8,v8,v8,v8,v8,.int .u8 0]⟩),(32,⟨33,40,.struct [(0,31),(32,3)],[v8,v8,v8,v8,v8,v8,v8,v8,v8,v8,v8,v8,v8,v8,v8,v8,v8,v8,v8,v8,v8,v8,v8,v8,v8,v8,v8,v8,v8,v8,v8,v8,.int .i64 0]⟩),(40,⟨5,88,.struct [(0,9),(1,9),(2,3),(3,38),(4,39)],[.string ⟨#[]⟩,.string ⟨#[]⟩,.int .i64 0,.slice none 0 0,.slice none 0 0]⟩),(47,⟨172,296,.struct [(0,33),(33,3),(34,33),(67,3),(68,33),(101,9),(102,3),(103,9),(104,9),(105,33),(138,33),(171,43)],[v8,v8,v8,v8,v8,v8,v8,v8,v8,v8,v8,v8,v8,v8,v8,v8,v8,v8,v8,v8,v8,v8,v8,v8,v8,v8,v8,v8,v8,v8,v8,v8,.int .i64 0,.int .i64 0,v8,v8,v8,v8,v8,v8,v8,v8,v8,v8,v8,v8,v8,v8,v8,v8,v8,v8,v8,v8,v8,v8,v8,v8,v8,v8,v8,v8,v8,v8,v8,v8,.int .i64 0,.int .i64 0,v8,v8,v8,v8,v8,v8,v8,v8,v8,v8,v8,v8,v8,v8,v8,v8,v8,v8,v8,v8,v8,v8,v8,v8,v8,v8,v8,v8,v8,v8,v8,v8,.int .i64 0,.string ⟨#[]⟩,.int .i64 0,.string ⟨#[]⟩,.string ⟨#[]⟩,v8,v8,v8,v8,v8,v8,v8,v8,v8,v8,v8,v8,v8,v8,v8,v8,v8,v8,v8,v8,v8,v8,v8,v8,v8,v8,v8,v8,v8,v8,v8,v8,.int .i64 0,v8,v8,v8,v8,v8,v8,v8,v8,v8,v8,v8,v8,v8,v8,v8,v8,v8,v8,v8,v8,v8,v8,v8,v8,v8,v8,v8,v8,v8,v8,v8,v8,.int .i64 0,.slice none 0 0]⟩),(88,⟨139,264,.struct [(0,3),(1,33),(34,3),(35,33),(68,9),(69,3),(70,9),(71,33),(104,33),(137,87),(138,43)],[.int .i64 0,v8,v8,v8,v8,v8,v8,v8,v8,v8,v8,v8,v8,v8,v8,v8,v8,v8,v8,v8,v8,v8,v8,v8,v8,v8,v8,v8,v8,v8,v8,v8,v8,.int .i64 0,.int .i64 0,v8,v8,v8,v8,v8,v8,v8,v8,v8,v8,v8,v8,v8,v8,v8,v8,v8,v8,v8,v8,v8,v8,v8,v8,v8,v8,v8,v8,v8,v8,v8,v8,.int .i64 0,.string ⟨#[]⟩,.int .i64 0,.string ⟨#[]⟩,v8,v8,v8,v8,v8,v8,v8,v8,v8,v8,v8,v8,v8,v8,v8,v8,v8,v8,v8,v8,v8,v8,v8,v8,v8,v8,v8,v8,v8,v8,v8,v8,.int .i64 0,v8,v8,v8,v8,v8,v8,v8,v8,v8,v8,v8,v8,v8,v8,v8,v8,v8,v8,v8,v8,v8,v8,v8,v8,v8,v8,v8,v8,v8,v8,v8,v8,.int .i64 0,.slice none 0 0,.slice none 0 0]⟩),(106,⟨1,8,.map 33 339,[.map none]⟩),(107,⟨1,8,.map 339 43,[.map none]⟩),(339,⟨34,56,.struct [(0,33),(33,9)],[v8,v8,v8,v8,v8,v8,v8,v8,v8,v8,v8,v8,v8,v8,v8,v8,v8,v8,v8,v8,v8,v8,v8,v8,v8,v8,v8,v8,v8,v8,v8,v8,.int .i64 0,.string ⟨#[]⟩]⟩)]
theorem ag4:∀t i,(t,i)∈jG->fJ Tryz.prog t i:=by intro t i h;simp only[jG,aQ,Prod.mk.injEq,gr,or_false]at h;rcases h with⟨rfl,rfl⟩|⟨rfl,rfl⟩|⟨rfl,rfl⟩|⟨rfl,rfl⟩|⟨rfl,rfl⟩|⟨rfl,rfl⟩|⟨rfl,rfl⟩|⟨rfl,rfl⟩|⟨rfl,rfl⟩|⟨rfl,rfl⟩|⟨rfl,rfl⟩|⟨rfl,rfl⟩|⟨rfl,rfl⟩|⟨rfl,rfl⟩|⟨rfl,rfl⟩|⟨rfl,rfl⟩|⟨rfl,rfl⟩|⟨rfl,rfl⟩|⟨rfl,rfl⟩|⟨rfl,rfl⟩|⟨rfl,rfl⟩|⟨rfl,rfl⟩|⟨rfl,rfl⟩|⟨rfl,rfl⟩|⟨rfl,rfl⟩|⟨rfl,rfl⟩|⟨rfl,rfl⟩|⟨rfl,rfl⟩|⟨rfl,rfl⟩|⟨rfl,rfl⟩|⟨rfl,rfl⟩|⟨rfl,rfl⟩|⟨rfl,rfl⟩|⟨rfl,rfl⟩|⟨rfl,rfl⟩|⟨rfl,rfl⟩|⟨rfl,rfl⟩|⟨rfl,rfl⟩|⟨rfl,rfl⟩|⟨rfl,rfl⟩|⟨rfl,rfl⟩|⟨rfl,rfl⟩|⟨rfl,rfl⟩|⟨rfl,rfl⟩|⟨rfl,rfl⟩|⟨rfl,rfl⟩|⟨rfl,rfl⟩|⟨rfl,rfl⟩|⟨rfl,rfl⟩|⟨rfl,rfl⟩|⟨rfl,rfl⟩|⟨rfl,rfl⟩|⟨rfl,rfl⟩|⟨rfl,rfl⟩|⟨rfl,rfl⟩|⟨rfl,rfl⟩|⟨rfl,rfl⟩|⟨rfl,rfl⟩|⟨rfl,rfl⟩|⟨rfl,rfl⟩|⟨rfl,rfl⟩|⟨rfl,rfl⟩|⟨rfl,rfl⟩|⟨rfl,rfl⟩|⟨rfl,rfl⟩|⟨rfl,rfl⟩|⟨rfl,rfl⟩|⟨rfl,rfl⟩|⟨rfl,rfl⟩|⟨rfl,rfl⟩|⟨rfl,rfl⟩|⟨rfl,rfl⟩|⟨rfl,rfl⟩|⟨rfl,rfl⟩|⟨rfl,rfl⟩|⟨rfl,rfl⟩|⟨rfl,rfl⟩|⟨rfl,rfl⟩|⟨rfl,rfl⟩|⟨rfl,rfl⟩|⟨rfl,rfl⟩|⟨rfl,rfl⟩|⟨rfl,rfl⟩|⟨rfl,rfl⟩|⟨rfl,rfl⟩|⟨rfl,rfl⟩|⟨rfl,rfl⟩|⟨rfl,rfl⟩|⟨rfl,rfl⟩|⟨rfl,rfl⟩|⟨rfl,rfl⟩|⟨rfl,rfl⟩|⟨rfl,rfl⟩|⟨rfl,rfl⟩|⟨rfl,rfl⟩|⟨rfl,rfl⟩|⟨rfl,rfl⟩|⟨rfl,rfl⟩|⟨rfl,rfl⟩|⟨rfl,rfl⟩|⟨rfl,rfl⟩|⟨rfl,rfl⟩|⟨rfl,rfl⟩|⟨rfl,rfl⟩|⟨rfl,rfl⟩|⟨rfl,rfl⟩|⟨rfl,rfl⟩|⟨rfl,rfl⟩|⟨rfl,rfl⟩|⟨rfl,rfl⟩|⟨rfl,rfl⟩|⟨rfl,rfl⟩|⟨rfl,rfl⟩|⟨rfl,rfl⟩|⟨rfl,rfl⟩|⟨rfl,rfl⟩;all_goals exact⟨kK,kK,kK⟩
noncomputable def C:Ctx:=⟨Tryz.prog,jG,ag4,aaN,4,rfl,279,5,Re,[],{opens:=[],BB:=[],full:=false}⟩
end Qv
open Go Go.RowKit
namespace Qv
abbrev Dg:={l:Bytes//l.length=32}
def bF:Dg:=⟨List.replicate 32 0,rfl⟩
instance:Inhabited Dg:=⟨bF⟩
structure bg where
 p:Dg
 n:Int deriving DecidableEq,Inhabited
structure bD where
 id:bg
 kind:Int
 file:bg
 type:Int
 parent:bg
 name:Bytes
 mode:Int
 data:Bytes
 text:Bytes
 fr:bg
 to:bg
 over:List bg deriving DecidableEq,Inhabited
structure eG where
 kind:Int
 file:bg
 type:Int
 parent:bg
 name:Bytes
 mode:Int
 data:Bytes
 dm:bg
 dG:bg
 lines:List Bytes
 over:List bg deriving DecidableEq,Inhabited
structure ga where
 eW:Bytes
 message:Bytes
 time:Int
 deps:List Dg
 changes:List eG deriving DecidableEq,Inhabited
structure bO where
 id:Dg
 pat:ga deriving DecidableEq,Inhabited
def cD (d:Dg):List AV:=[.int .u8 (d.1.getD 0 0).toNat,.int .u8 (d.1.getD 1 0).toNat,.int .u8 (d.1.getD 2 0).toNat,.int .u8 (d.1.getD 3 0).toNat,.int .u8 (d.1.getD 4 0).toNat,.int .u8 (d.1.getD 5 0).toNat,.int .u8 (d.1.getD 6 0).toNat,.int .u8 (d.1.getD 7 0).toNat,.int .u8 (d.1.getD 8 0).toNat,.int .u8 (d.1.getD 9 0).toNat,.int .u8 (d.1.getD 10 0).toNat,.int .u8 (d.1.getD 11 0).toNat,.int .u8 (d.1.getD 12 0).toNat,.int .u8 (d.1.getD 13 0).toNat,.int .u8 (d.1.getD 14 0).toNat,.int .u8 (d.1.getD 15 0).toNat,.int .u8 (d.1.getD 16 0).toNat,.int .u8 (d.1.getD 17 0).toNat,.int .u8 (d.1.getD 18 0).toNat,.int .u8 (d.1.getD 19 0).toNat,.int .u8 (d.1.getD 20 0).toNat,.int .u8 (d.1.getD 21 0).toNat,.int .u8 (d.1.getD 22 0).toNat,.int .u8 (d.1.getD 23 0).toNat,.int .u8 (d.1.getD 24 0).toNat,.int .u8 (d.1.getD 25 0).toNat,.int .u8 (d.1.getD 26 0).toNat,.int .u8 (d.1.getD 27 0).toNat,.int .u8 (d.1.getD 28 0).toNat,.int .u8 (d.1.getD 29 0).toNat,.int .u8 (d.1.getD 30 0).toNat,.int .u8 (d.1.getD 31 0).toNat]
def cI (x:bg):List AV:=cD x.p++[.int .i64 x.n]
def iq (l:List bg):List (List AV):=l.map cI
def jo (l:List Dg):List (List AV):=l.map cD
def cA (a:bD):List AV:=cI a.id++([.int .i64 a.kind]++(cI a.file++([.int .i64 a.type]++(cI a.parent++([.str a.name,.int .i64 a.mode,.str a.data,.str a.text]++(cI a.fr++(cI a.to++[.sl (iq a.over)])))))))
def eU (l:List bD):List (List AV):=l.map cA
def cC (c:eG):List AV:=[.int .i64 c.kind]++(cI c.file++([.int .i64 c.type]++(cI c.parent++([.str c.name,.int .i64 c.mode,.str c.data]++(cI c.dm++(cI c.dG++[Hf c.lines,.sl (iq c.over)]))))))
def yR (l:List eG):List (List AV):=l.map cC
def cP (p:ga):List AV:=[.str p.eW,.str p.message,.int .i64 p.time,.sl (jo p.deps),.sl (yR p.changes)]
def mh (s:bO):List AV:=cD s.id++cP s.pat
def cn (s:List bO):List (List AV):=s.map mh
theorem ag5 (a:bD):(cA a).length=172:=rfl
theorem IN (d:Dg):cD d=(List.range 32).map λi=>.int .u8 (d.1.getD i 0).toNat:=rfl
theorem IP (d:Dg):cD d=d.1.map λb=>.int .u8 b.toNat:=by rw[IN];refine fO λi=>?_;rw[aR,aR];have hd:=d.2;by_cases h:i<32;rw[xK h,av oO];simp[List.getD,av (show i<d.1.length by omega)];rw[nT (by simp;omega),nT oO];rfl
theorem Gs:∀{a b c d:List AV},a.length=b.length->sameAs (a++c) (b++d)=(sameAs a b&&sameAs c d)
 |[],[],c,d,_=>by simp[sameAs]
 |x::a,y::b,c,d,h=>by have ih:=Gs (a:=a) (b:=b) (c:=c) (d:=d) (by simpa using h);simp only[eB,sameAs,ih,wZ]
 |[],_::_,_,_,h=>by simp at h
 |_::_,[],_,_,h=>by simp at h
theorem Dz:∀a b:Bytes,sameAs (a.map λb=>.int .u8 b.toNat) (b.map λb=>.int .u8 b.toNat)=decide (a=b)
 |[],[]=>rfl
 |[],y::b=>by simp[sameAs]
 |x::a,[]=>by simp[sameAs]
 |x::a,y::b=>by simp only[cS,sameAs,sF,Bi,ZF,gU,gQ,Dz a b];rw[mj];simp only[aW,beq_iff_eq,decide_eq_true_eq,ko];constructor;rintro⟨h1,h2⟩;exact⟨aiX h1,h2⟩;rintro⟨rfl,rfl⟩;exact⟨rfl,rfl⟩
theorem Wc (a b:Dg):sameAs (cD a) (cD b)=decide (a=b):=by rw[IP,IP,Dz];exact decide_eq_decide.2 ⟨λh=>Subtype.ext h,λh=>aB _ h⟩
theorem aaO (a b:bg):sameAs (cI a) (cI b)=decide (a=b):=by obtain⟨p,n⟩:=a;obtain⟨q,m⟩:=b;show sameAs (cD p++[.int .i64 n]) (cD q++[.int .i64 m])=_;rw[Gs (show(cD p).length=(cD q).length from rfl),Wc];simp only[sameAs,sF,Bi,ZF,gU,gQ,Bool.and_true];rw[mj];simp[bg.mk.injEq]
theorem agf (d:Dg){k:Nat}(h:k<32):aH (cD d)=(aH (cD d)).take k++([.p (.int .u8 (d.1.getD k 0).toNat)]++(aH (cD d)).drop (k+1))/\((aH (cD d)).take k).length=k:=by
 have hl:(aH (cD d)).length=32:=rfl;refine⟨?_,by rw[aD,hl];omega⟩;have h1:(aH (cD d))[k]?=some (.p (.int .u8 (d.1.getD k 0).toNat)):=by rw[ue,IN,aR,xK h];rfl
 have h2:(aH (cD d)).drop k=.p (.int .u8 (d.1.getD k 0).toNat)::(aH (cD d)).drop (k+1):=by
  have hlt:k<(aH (cD d)).length:=by rw[hl];exact h
  rw[bL hlt];congr 1;rw[av hlt]at h1;exact au h1
 rw[gW,<-h2,cT]
def cmpL:Bytes->Bytes->Int|[],[]=>0|[],_::_=>-1|_::_,[]=>1|x::xs,y::ys=>if x.toNat<y.toNat then-1 else if y.toNat<x.toNat then 1 else cmpL xs ys
def eY (a b:Dg):Int:=cmpL a.1 b.1
def gN (a b:bg):Int:=if eY a.p b.p≠0 then eY a.p b.p else if a.n<b.n then-1 else if b.n<a.n then 1 else 0
theorem LQ {l:Bytes}{k:Nat}(h:k<l.length):l.drop k=l.getD k 0::l.drop (k+1):=by rw[bL h];simp[List.getD,av h]
end Qv
open Go Go.Proofs Go.RowKit
namespace Qv
def yX:List gI:=[.int .u8,.int .u8,.int .u8,.int .u8,.int .u8,.int .u8,.int .u8,.int .u8,.int .u8,.int .u8,.int .u8,.int .u8,.int .u8,.int .u8,.int .u8,.int .u8,.int .u8,.int .u8,.int .u8,.int .u8,.int .u8,.int .u8,.int .u8,.int .u8,.int .u8,.int .u8,.int .u8,.int .u8,.int .u8,.int .u8,.int .u8,.int .u8]
def yY:List gI:=yX++[.int .i64]
theorem dQ:eM Tryz.prog 40 31=some yX:=kK
theorem ee:eM Tryz.prog 40 33=some yY:=kK
theorem lq:Tryz.prog.eqGuardType Tryz.prog.depth 31=false:=kK
theorem aen:Tryz.prog.eqGuardType Tryz.prog.depth 33=false:=kK
theorem ou {xs ys:List AV}{K:Prop}(h:K)(e1:fu yY xs=true:=by rfl)(e2:fu yY ys=true:=by rfl):∃L,eM Tryz.prog 40 33=some L/\Tryz.prog.eqGuardType Tryz.prog.depth 33=false/\fu L xs=true/\fu L ys=true/\K:=⟨yY,ee,aen,e1,e2,h⟩
theorem IQ {a b:Dg}{K:Bool->Prop}(h:K (decide (a=b))):Al λt:Bool=>t=sameAs (cD a) (cD b)->K t:=⟨λt ht=>by rw[ht,Wc];exact h⟩
theorem iu {a b:bg}{K:Bool->Prop}(h:K (decide (a=b))):Al λt:Bool=>t=sameAs (cI a) (cI b)->K t:=⟨λt ht=>by rw[ht,aaO];exact h⟩
theorem Rf {a b:Dg}{K:Bool->Prop}(h:K (!decide (a=b))):Al λt:Bool=>t=!sameAs (cD a) (cD b)->K t:=⟨λt ht=>by rw[ht,Wc];exact h⟩
theorem DA {a b:bg}{K:Bool->Prop}(h:K (!decide (a=b))):Al λt:Bool=>t=!sameAs (cI a) (cI b)->K t:=⟨λt ht=>by rw[ht,aaO];exact h⟩
theorem xL (d:Dg):ak C 103 [.agg (cD d)] (λr=>r=.val (.bool (decide (d=bF)))):=by refine ag Tryz.func103 rfl rfl rfl ?_;refine⟨yX,dQ,lq,rfl,rfl,?_⟩;refine IQ (a:=d) (b:=bF) ?_;exact rfl
theorem pP (a b:Dg):ak C 66 [.agg (cD a),.agg (cD b)] (λr=>r=.val (.int .i64 (eY a b))):=by
 refine ag Tryz.func66 rfl rfl rfl ?_;refine bu 24 (λk:Nat=>[(2,.ptr 2 0),(3,.ptr 3 0),(5,.p (.int .i64 k))]) (λ_=>[(2,aH (cD a)),(3,aH (cD b))]) (λk=>k<=32/\cmpL (a.1.drop k) (b.1.drop k)=eY a b) (λk=>32-k) 0 ⟨oO,by simp[eY]⟩ rfl wS oS ?_;rintro k ⟨hk,hc⟩;have ha:=a.2;have hb:=b.2;refine az (λhlt=>?_) (λhge=>?_);have hlt:k<32:=oO
 obtain⟨a1,a2⟩:=agf a hlt;obtain⟨b1,b2⟩:=agf b hlt;rw[LQ (l:=a.1) (k:=k) oO,LQ (l:=b.1) (k:=k) oO]at hc;generalize a.1.getD k 0=x at a1 hc;generalize b.1.getD k 0=y at b1 hc;have hc:(if x.toNat<y.toNat then-1 else if y.toNat<x.toNat then 1 else cmpL (a.1.drop (k+1)) (b.1.drop (k+1)))=eY a b:=hc;refine cm 7 kK ?_;refine⟨k,rfl,hlt,true,k,(by show 0+k*1=k;omega),?_⟩;refine⟨_,_,_,a1,a2,?_⟩;refine⟨k,rfl,hlt,true,k,(by show 0+k*1=k;omega),?_⟩;refine⟨_,_,_,b1,b2,?_⟩;refine az (λh=>?_) (λh=>?_);rw[af oO]at hc;rw[<-hc];exact rfl;rw[aa oO]at hc;refine cm 7 kK ?_;refine⟨k,rfl,hlt,true,k,(by show 0+k*1=k;omega),?_⟩;refine⟨_,_,_,a1,a2,?_⟩;refine⟨k,rfl,hlt,true,k,(by show 0+k*1=k;omega),?_⟩;refine⟨_,_,_,b1,b2,?_⟩;refine az (λh=>?_) (λh=>?_);rw[af oO]at hc;rw[<-hc];exact rfl;rw[aa oO]at hc;exact nx (k+1) (aO (k+1) ⟨hlt,hc⟩ oO rfl wS oS);obtain rfl:k=32:=oO
 rw[cU oO,cU oO]at hc;rw[<-hc];exact rfl
theorem zP (a b:bg):ak C 50 [.agg (cI a),.agg (cI b)] (λr=>r=.val (.int .i64 (gN a b))):=by refine ag Tryz.func50 rfl rfl rfl ?_;refine cl (pP a.p b.p) ?_;unfold gN;generalize eY a.p b.p=c;refine cF (λh=>?_) (λh=>?_);rw[af h];exact rfl;rw[aa oO];refine az (λh=>?_) (λh=>?_);rw[af h];exact rfl;rw[aa h];refine az (λh=>?_) (λh=>?_);rw[af oO];exact rfl;rw[aa oO];exact rfl
end Qv
open Go Go.RowKit
namespace Qv
def x32 (a b:Int):Int:=yO .xor .u32 a b
def a32 (a b:Int):Int:=yO .and .u32 a b
def BO (a b:Int):Int:=yO .or .u32 a b
def n32 (a:Int):Int:=yO .xor .u32 (IntKind.u32.max) a
def oL (a b:Int):Int:=IntKind.u32.wrap (a+b)
def Br (a b:Int):Int:=a.fdiv (2^(min b.toNat 32))
def jq (a b:Int):Int:=IntKind.u32.wrap (a*2^(min b.toNat 32))
def uU (a b:Int):Int:=BO (Br a b) (jq a (32-b))
def cW (f:Nat->Int):List AV:=[.int .u32 (f 0),.int .u32 (f 1),.int .u32 (f 2),.int .u32 (f 3),.int .u32 (f 4),.int .u32 (f 5),.int .u32 (f 6),.int .u32 (f 7),.int .u32 (f 8),.int .u32 (f 9),.int .u32 (f 10),.int .u32 (f 11),.int .u32 (f 12),.int .u32 (f 13),.int .u32 (f 14),.int .u32 (f 15),.int .u32 (f 16),.int .u32 (f 17),.int .u32 (f 18),.int .u32 (f 19),.int .u32 (f 20),.int .u32 (f 21),.int .u32 (f 22),.int .u32 (f 23),.int .u32 (f 24),.int .u32 (f 25),.int .u32 (f 26),.int .u32 (f 27),.int .u32 (f 28),.int .u32 (f 29),.int .u32 (f 30),.int .u32 (f 31),.int .u32 (f 32),.int .u32 (f 33),.int .u32 (f 34),.int .u32 (f 35),.int .u32 (f 36),.int .u32 (f 37),.int .u32 (f 38),.int .u32 (f 39),.int .u32 (f 40),.int .u32 (f 41),.int .u32 (f 42),.int .u32 (f 43),.int .u32 (f 44),.int .u32 (f 45),.int .u32 (f 46),.int .u32 (f 47),.int .u32 (f 48),.int .u32 (f 49),.int .u32 (f 50),.int .u32 (f 51),.int .u32 (f 52),.int .u32 (f 53),.int .u32 (f 54),.int .u32 (f 55),.int .u32 (f 56),.int .u32 (f 57),.int .u32 (f 58),.int .u32 (f 59),.int .u32 (f 60),.int .u32 (f 61),.int .u32 (f 62),.int .u32 (f 63)]
def cH (f:Nat->Int):List AV:=[.int .u32 (f 0),.int .u32 (f 1),.int .u32 (f 2),.int .u32 (f 3),.int .u32 (f 4),.int .u32 (f 5),.int .u32 (f 6),.int .u32 (f 7)]
def kL:List Int:=[1116352408,1899447441,3049323471,3921009573,961987163,1508970993,2453635748,2870763221,3624381080,310598401,607225278,1426881987,1925078388,2162078206,2614888103,3248222580,3835390401,4022224774,264347078,604807628,770255983,1249150122,1555081692,1996064986,2554220882,2821834349,2952996808,3210313671,3336571891,3584528711,113926993,338241895,666307205,773529912,1294757372,1396182291,1695183700,1986661051,2177026350,2456956037,2730485921,2820302411,3259730800,3345764771,3516065817,3600352804,4094571909,275423344,430227734,506948616,659060556,883997877,958139571,1322822218,1537002063,1747873779,1955562222,2024104815,2227730452,2361852424,2428436474,2756734187,3204031479,3329325298]
def kF (i:Nat):Int:=kL.getD i 0
def h0L:List Int:=[1779033703,3144134277,1013904242,2773480762,1359893119,2600822924,528734635,1541459225]
def h0F (i:Nat):Int:=h0L.getD i 0
def pW (f:Nat->Int)(k:Nat)(v:Int):Nat->Int:=λi=>match Nat.beq i k with|true=>v|false=>f i
theorem Rg (f:Nat->Int):cW f=(List.range 64).map λi=>.int .u32 (f i):=rfl
theorem uV {α:Type}(g:Nat->α){n k:Nat}(h:k<n):(List.range n).map g=((List.range n).map g).take k++([g k]++((List.range n).map g).drop (k+1))/\(((List.range n).map g).take k).length=k:=by
 have hl:((List.range n).map g).length=n:=by simp
 refine⟨?_,by rw[aD,hl];omega⟩;have hlt:k<((List.range n).map g).length:=by rw[hl];exact h
 have h2:((List.range n).map g).drop k=g k::((List.range n).map g).drop (k+1):=by rw[bL hlt];simp
 rw[gW,<-h2,cT]
theorem Fg {α:Type}(g g':Nat->α){n k:Nat}(h:k<n)(hg:∀i,i≠k->g' i=g i):((List.range n).map g).take k++([g' k]++((List.range n).map g).drop (k+1))=(List.range n).map g':=by
 have h1:((List.range n).map g).take k=((List.range n).map g').take k:=by refine fO λi=>?_;rw[DB,DB];by_cases hi:i<k;rw[af hi,af hi,aR,aR];rw[xK oO];simp[hg i oO];rw[aa hi,aa hi]
 have h2:((List.range n).map g).drop (k+1)=((List.range n).map g').drop (k+1):=by refine fO λi=>?_;rw[lV,lV,aR,aR];by_cases hi:k+1+i<n;rw[xK hi];simp[hg (k+1+i) oO];rw[nT (by simp;omega)];rfl
 rw[h1,h2];exact(uV g' h).1.symm
theorem tw (f:Nat->Int)(k:Nat)(v:Int):∀i,i≠k->pW f k v i=f i:=λi h=>by
 unfold pW;have hb:Nat.beq i k=false:=by
  cases hb:Nat.beq i k with
  |false=>rfl
  |true=>exact absurd (aP hb) h
 rw[hb]
theorem qg (f:Nat->Int)(k:Nat)(v:Int):pW f k v k=v:=by unfold pW;rw[gU]
abbrev fw (f:Nat->Int)(i:Nat):FV:=.p (.int .u32 (f i))
theorem mW (f:Nat->Int):aH (cW f)=(List.range 64).map (fw f):=rfl
theorem mH (f:Nat->Int):aH (cH f)=(List.range 8).map (fw f):=rfl
theorem sP (f:Nat->Int){k:Nat}(h:k<64):aH (cW f)=(aH (cW f)).take k++([.p (.int .u32 (f k))]++(aH (cW f)).drop (k+1))/\((aH (cW f)).take k).length=k:=by rw[mW];exact uV (fw f) h
theorem NT (f:Nat->Int){k:Nat}(h:k<64)(v:Int):(aH (cW f)).take k++([.p (.int .u32 v)]++(aH (cW f)).drop (k+1))=aH (cW (pW f k v)):=by
 rw[mW,mW];have :=Fg (fw f) (fw (pW f k v)) h λi hi=>by simp only[fw,tw f k v i hi]
 simp only[fw,qg]at this⊢;exact this
theorem Rh (f:Nat->Int){k:Nat}(h:k<8):aH (cH f)=(aH (cH f)).take k++([.p (.int .u32 (f k))]++(aH (cH f)).drop (k+1))/\((aH (cH f)).take k).length=k:=by rw[mH];exact uV (fw f) h
theorem aaP (f:Nat->Int){k:Nat}(h:k<8)(v:Int):(aH (cH f)).take k++([.p (.int .u32 v)]++(aH (cH f)).drop (k+1))=aH (cH (pW f k v)):=by
 rw[mH,mH];have :=Fg (fw f) (fw (pW f k v)) h λi hi=>by simp only[fw,tw f k v i hi]
 simp only[fw,qg]at this⊢;exact this
def yH (b:Bytes)(i:Nat):Int:=((b.getD i 0).toNat:Int)
def w1F (b:Bytes)(t:Nat):Int:=BO (BO (BO (jq (yH b (4*t)) 24) (jq (yH b (4*t+1)) 16)) (jq (yH b (4*t+2)) 8)) (yH b (4*t+3))
def Zx (f:Nat->Int)(t:Nat):Int:=oL (oL (oL (x32 (x32 (uU (f (t-2)) 17) (uU (f (t-2)) 19)) (Br (f (t-2)) 10)) (f (t-7))) (x32 (x32 (uU (f (t-15)) 7) (uU (f (t-15)) 18)) (Br (f (t-15)) 3))) (f (t-16))
def qJ (b:Bytes):Nat->Nat->Int|0=>λ_=>0|k+1=>pW (qJ b k) k (if k<16 then w1F b k else Zx (qJ b k) k)
def t1F (v:Nat->Int)(k w:Int):Int:=oL (oL (oL (oL (v 7) (x32 (x32 (uU (v 4) 6) (uU (v 4) 11)) (uU (v 4) 25))) (x32 (a32 (v 4) (v 5)) (a32 (n32 (v 4)) (v 6)))) k) w
def t2F (v:Nat->Int):Int:=oL (x32 (x32 (uU (v 0) 2) (uU (v 0) 13)) (uU (v 0) 22)) (x32 (x32 (a32 (v 0) (v 1)) (a32 (v 0) (v 2))) (a32 (v 1) (v 2)))
def ag6 (v:Nat->Int)(k w:Int):Nat->Int|0=>oL (t1F v k w) (t2F v)|1=>v 0|2=>v 1|3=>v 2|4=>oL (v 3) (t1F v k w)|5=>v 4|6=>v 5|7=>v 6|_=>0
def vS (h w:Nat->Int):Nat->Nat->Int|0=>h|t+1=>ag6 (vS h w t) (kF t) (w t)
def hS (h v:Nat->Int):Nat->Nat->Int|0=>h|k+1=>pW (hS h v k) k (oL (hS h v k k) (v k))
def DC (h:Nat->Int)(b:Bytes):Nat->Int:=hS h (vS h (qJ b 64) 64) 8
def jL (n:Nat):Bytes:=List.replicate n 0
def NU (n i:Nat):UInt8:=UInt8.ofNat (n*8%18446744073709551616/2^(8*i))
def ur (n:Nat):Nat->Bytes|0=>[]|i+1=>NU n i::ur n i
def uu (s:Bytes):Bytes:=s++[128]++jL ((120-(s.length+1)%64)%64)++ur s.length 8
def wh (m:Bytes):Nat->Nat->Int|0=>h0F|i+1=>DC (wh m i) ((m.take (64*i+64)).drop (64*i))
def IS (h:Nat->Int)(i:Nat):UInt8:=UInt8.ofNat (IntKind.u8.wrap (Br (h (i/4)) (24-8*(i%4:Nat)))).toNat
def Ri (s:Bytes):Dg:=⟨(List.range 32).map (IS (wh (uu s) ((uu s).length/64))),by simp⟩
end Qv
open Go Go.Proofs Go.RowKit
namespace Qv
theorem uW {n:Int}(h1:0<=n)(h2:n<18446744073709551616):IntKind.u64.wrap n=n:=by simp[IntKind.wrap,IntKind.bits,IntKind.signed];omega
theorem xM {n:Int}(h1:0<=n)(h2:n<4294967296):IntKind.u32.wrap n=n:=by simp[IntKind.wrap,IntKind.bits,IntKind.signed];omega
theorem mQ (x:Int)(n:Int)(h0:0<=n)(h:n<=32):ak C 166 [.int .u32 x,.int .u64 n] (λr=>r=.val (.int .u32 (uU x n))):=by refine ag Tryz.func166 rfl rfl rfl ?_;refine⟨h0,_,rfl,?_⟩;refine⟨32-n,uW oO oO,?_⟩;refine⟨oO,_,rfl,?_⟩;refine⟨_,rfl,?_⟩;exact rfl
theorem La:ak C 165 [] (λr=>r=.val (.agg (cW kF))):=by refine ag Tryz.func165 rfl rfl rfl ?_;exact rfl
theorem Rj (n:Nat):jL n++[0]=jL (n+1):=by unfold jL;rw[List.replicate_succ',]
theorem aaQ (n:Nat)(h:n<2^40):ak C 163 [.int .i64 n] (λr=>r=.val (.str (jL n))):=by
 refine ag Tryz.func163 rfl rfl rfl ?_;refine bu 13 (λk:Nat=>[(0,.p (.int .i64 n)),(3,.p (.str (jL k))),(4,.p (.int .i64 k))]) (λ_=>[]) (λk=>k<=n) (λk=>n-k) 0 oO rfl wS trivial ?_;intro k hk;refine az (λhlt=>?_) (λhge=>?_);have hlt:k<n:=oO
 refine⟨by simp[jL];omega,?_⟩;exact nx (k+1) (aO (k+1) hlt oO rfl ⟨aF.refl _,aF.eq (by show FV.p (.str (jL k++[0]))=_;rw[Rj]),aF.refl _,trivial⟩ trivial);obtain rfl:k=n:=oO
 exact rfl
theorem NV {s:Bytes}{n:Int}{k:Nat}(hn:n=k)(h:k<s.length):s[n.toNat]?=some (s.getD k 0):=by subst hn;simp[List.getD,av h]
theorem Rk (b:Bytes)(hb:b.length=64):ak C 164 [.str b] (λr=>r=.val (.agg (cW (qJ b 64)))):=by
 refine dM [6] Tryz.func164 rfl rfl rfl ?_;refine bu 86 (λk:Nat=>[(0,.p (.str b)),(2,.ptr 2 0),(3,.ptr 3 0),(4,.p (.int .i64 k))]) (λk=>[(2,aH (cW λ_=>0)),(3,aH (cW (qJ b k)))]) (λk=>k<=16) (λk=>16-k) 0 oO rfl wS oS ?_;intro k hk;refine az (λhlt=>?_) (λhge=>?_);have hlt:k<16:=oO
 obtain⟨a1,a2⟩:=sP (qJ b k) (k:=k) oO;have a3:=NT (qJ b k) (k:=k) oO (w1F b k);have e:pW (qJ b k) k (w1F b k)=qJ b (k+1):=by show _=pW (qJ b k) k (if k<16 then w1F b k else Zx (qJ b k) k);rw[af hlt]
 rw[e]at a3;have m0:IntKind.i64.wrap (4*(k:Int))=((4*k:Nat):Int):=by rw[wrap64 oO oO];omega
 refine cm 31 kK ?_;refine⟨_,m0,?_⟩;refine⟨oO,_,NV rfl oO,?_⟩;refine⟨_,⟨_,xM oO (by have :=(b.getD (4*k) 0).toNat_lt;omega),rfl⟩,?_⟩;refine⟨dD,_,rfl,?_⟩;refine⟨_,m0,?_⟩;refine nx (4*k+1) ?_;refine⟨oO,_,NV rfl oO,?_⟩;refine⟨_,⟨_,xM oO (by have :=(b.getD (4*k+1) 0).toNat_lt;omega),rfl⟩,?_⟩;refine⟨dD,_,rfl,?_⟩;refine⟨_,rfl,?_⟩;refine⟨_,m0,?_⟩;refine nx (4*k+2) ?_;refine⟨oO,_,NV rfl oO,?_⟩;refine⟨_,⟨_,xM oO (by have :=(b.getD (4*k+2) 0).toNat_lt;omega),rfl⟩,?_⟩;refine⟨dD,_,rfl,?_⟩;refine⟨_,rfl,?_⟩;refine⟨_,m0,?_⟩;refine nx (4*k+3) ?_;refine⟨oO,_,NV rfl oO,?_⟩;refine⟨_,⟨_,xM oO (by have :=(b.getD (4*k+3) 0).toNat_lt;omega),rfl⟩,?_⟩;refine⟨_,rfl,?_⟩;refine⟨k,rfl,oO,true,k,(by show 0+k*1=k;omega),?_⟩;refine⟨_,_,_,a1,a2,?_⟩;refine⟨_,a3,?_⟩;exact nx (k+1) (aO (k+1) hlt oO rfl wS oS);obtain rfl:k=16:=oO
 refine dL 86 [(0,.p (.str b)),(2,.ptr 2 0),(3,.ptr 3 0)] [(2,aH (cW λ_=>0)),(3,aH (cW (qJ b 16)))] rfl wS oS ?_;refine bu 86 (λk:Nat=>[(2,.ptr 2 0),(3,.ptr 3 0),(5,.p (.int .i64 k))]) (λk=>[(2,aH (cW λ_=>0)),(3,aH (cW (qJ b k)))]) (λk=>16<=k/\k<=64) (λk=>64-k) 16 oO rfl wS oS ?_;rintro k ⟨h16,hk⟩;refine az (λhlt=>?_) (λhge=>?_);have hlt:k<64:=oO
 obtain⟨a1,a2⟩:=sP (qJ b k) (k:=k) hlt;obtain⟨b1,b2⟩:=sP (qJ b k) (k:=k-15) oO;obtain⟨c1,c2⟩:=sP (qJ b k) (k:=k-2) oO;obtain⟨d1,d2⟩:=sP (qJ b k) (k:=k-7) oO;obtain⟨e1,e2⟩:=sP (qJ b k) (k:=k-16) oO;have a3:=NT (qJ b k) (k:=k) hlt (Zx (qJ b k) k);have e:pW (qJ b k) k (Zx (qJ b k) k)=qJ b (k+1):=by show _=pW (qJ b k) k (if k<16 then w1F b k else Zx (qJ b k) k);rw[aa oO]
 rw[e]at a3;refine cm 10 kK ?_;refine nx (k-15) ?_;refine⟨k-15,rfl,oO,true,k-15,(by show 0+(k-15)*1=k-15;omega),?_⟩;refine⟨_,_,_,b1,b2,?_⟩;refine nx (k-2) ?_;refine⟨k-2,rfl,oO,true,k-2,(by show 0+(k-2)*1=k-2;omega),?_⟩;refine⟨_,_,_,c1,c2,?_⟩;refine cm 29 kK ?_;refine⟨_,mQ _ 17 dD dD,?_⟩;refine⟨_,mQ _ 19 dD dD,?_⟩;refine⟨_,rfl,?_⟩;refine⟨dD,_,rfl,?_⟩;refine⟨_,rfl,?_⟩;refine nx (k-7) ?_;refine⟨k-7,rfl,oO,true,k-7,(by show 0+(k-7)*1=k-7;omega),?_⟩;refine⟨_,_,_,d1,d2,?_⟩;refine⟨_,rfl,?_⟩;refine⟨_,mQ _ 7 dD dD,?_⟩;refine⟨_,mQ _ 18 dD dD,?_⟩;refine⟨_,rfl,?_⟩;refine⟨dD,_,rfl,?_⟩;refine⟨_,rfl,?_⟩;refine⟨_,rfl,?_⟩;refine nx (k-16) ?_;refine⟨k-16,rfl,oO,true,k-16,(by show 0+(k-16)*1=k-16;omega),?_⟩;refine⟨_,_,_,e1,e2,?_⟩;refine⟨_,rfl,?_⟩;refine⟨k,rfl,hlt,true,k,(by show 0+k*1=k;omega),?_⟩;refine⟨_,_,_,a1,a2,?_⟩;refine⟨_,a3,?_⟩;exact nx (k+1) (aO (k+1) ⟨oO,hlt⟩ oO rfl wS oS);obtain rfl:k=64:=oO
 exact rfl
end Qv
