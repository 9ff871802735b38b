/-
  Parts Tt Xw Xh Xi Xj, put together and made short by wip/py/merge.py (mini.py).
-/
import Derived.Test.YtmjpjbmeamnfpaaGreatDoorZe6
import Derived.Test.YtmjpjbmeamnfpaaGreatDoorProg
import Derived.Test.YtmjpjbmeamnfpaaGreatDoorZe0
set_option linter.unusedVariables false
set_option linter.unusedSimpArgs false
set_option maxRecDepth 100000
namespace Go.Proofs.YtmjpjbmeamnfpaaGreatDoor
open Go.Eng
def tt:TT:=[(0,⟨.any,1,false⟩),(1,⟨.any,1,false⟩),(2,⟨.int .i64,1,false⟩),(3,⟨.int .i64,1,false⟩),(4,⟨.bool,1,false⟩),(5,⟨.int .u8,1,false⟩),(6,⟨.int .u8,1,false⟩),(7,⟨.st [(0,1,false),(1,1,false),(2,1,false),(3,1,false)] [.int .i64 0,.int .i64 0,.bool false,.int .u8 0],4,true⟩),(8,⟨.st [(0,1,false),(1,1,false),(2,1,false),(3,1,false)] [.int .i64 0,.int .i64 0,.bool false,.int .u8 0],4,true⟩),(9,⟨.str,1,false⟩),(10,⟨.str,1,false⟩),(11,⟨.str,1,false⟩),(12,⟨.int .u64,1,false⟩),(13,⟨.st [(0,1,false),(1,1,false)] [.string ⟨⟨[]⟩⟩,.int .u64 0],2,true⟩),(14,⟨.st [(0,1,false),(1,1,false)] [.string ⟨⟨[]⟩⟩,.int .u64 0],2,true⟩),(15,⟨.any,1,false⟩),(16,⟨.any,1,false⟩),(17,⟨.any,1,false⟩),(18,⟨.st [(0,1,false)] [.pointer none],1,true⟩),(19,⟨.st [(0,1,false)] [.pointer none],1,true⟩),(20,⟨.any,1,false⟩),(21,⟨.int .i32,1,false⟩),(22,⟨.row 51 11,1,false⟩),(23,⟨.row 51 11,1,false⟩),(24,⟨.any,1,false⟩),(25,⟨.any,1,false⟩),(26,⟨.int .i64,1,false⟩),(27,⟨.any,1,false⟩),(28,⟨.any,1,false⟩),(29,⟨.any,1,false⟩),(30,⟨.any,1,false⟩),(31,⟨.any,1,false⟩),(32,⟨.row 9 1,1,false⟩),(33,⟨.any,1,false⟩),(34,⟨.any,1,false⟩),(35,⟨.row 48 11,1,false⟩),(36,⟨.row 48 11,1,false⟩),(37,⟨.any,1,false⟩),(38,⟨.any,1,false⟩),(39,⟨.any,1,false⟩),(40,⟨.any,1,false⟩),(41,⟨.any,1,false⟩),(42,⟨.any,1,false⟩),(43,⟨.row 36 1,1,false⟩),(44,⟨.any,1,false⟩),(45,⟨.st [(0,1,false),(1,1,false),(2,1,false),(3,1,false),(4,1,false),(5,1,false)] [.int .i64 0,.int .i64 0,.string ⟨⟨[]⟩⟩,.string ⟨⟨[]⟩⟩,.bool false,.int .i64 0],6,true⟩),(46,⟨.st [(0,1,false),(1,1,false),(2,1,false),(3,1,false),(4,1,false),(5,1,false)] [.int .i64 0,.int .i64 0,.string ⟨⟨[]⟩⟩,.string ⟨⟨[]⟩⟩,.bool false,.int .i64 0],6,true⟩),(47,⟨.st [(0,1,false),(1,1,false),(2,1,false),(3,1,false),(4,1,false),(5,6,true)] [.int .i64 0,.int .i64 0,.string ⟨⟨[]⟩⟩,.string ⟨⟨[]⟩⟩,.int .i64 0,.int .i64 0,.int .i64 0,.string ⟨⟨[]⟩⟩,.string ⟨⟨[]⟩⟩,.bool false,.int .i64 0],11,true⟩),(48,⟨.st [(0,1,false),(1,1,false),(2,1,false),(3,1,false),(4,1,false),(5,6,true)] [.int .i64 0,.int .i64 0,.string ⟨⟨[]⟩⟩,.string ⟨⟨[]⟩⟩,.int .i64 0,.int .i64 0,.int .i64 0,.string ⟨⟨[]⟩⟩,.string ⟨⟨[]⟩⟩,.bool false,.int .i64 0],11,true⟩),(49,⟨.any,1,false⟩),(50,⟨.st [(0,1,false),(1,1,false),(2,1,false),(3,1,false),(4,1,false),(5,6,true)] [.int .i64 0,.int .i64 0,.string ⟨⟨[]⟩⟩,.string ⟨⟨[]⟩⟩,.int .i64 0,.int .i64 0,.int .i64 0,.string ⟨⟨[]⟩⟩,.string ⟨⟨[]⟩⟩,.bool false,.int .i64 0],11,true⟩),(51,⟨.st [(0,1,false),(1,1,false),(2,1,false),(3,1,false),(4,1,false),(5,6,true)] [.int .i64 0,.int .i64 0,.string ⟨⟨[]⟩⟩,.string ⟨⟨[]⟩⟩,.int .i64 0,.int .i64 0,.int .i64 0,.string ⟨⟨[]⟩⟩,.string ⟨⟨[]⟩⟩,.bool false,.int .i64 0],11,true⟩),(52,⟨.row 63 9,1,false⟩),(53,⟨.any,1,false⟩),(54,⟨.any,1,false⟩),(55,⟨.st [(0,1,false),(1,1,false)] [.int .i64 0,.int .i64 0],2,true⟩),(56,⟨.st [(0,1,false),(1,1,false)] [.int .i64 0,.int .i64 0],2,true⟩),(57,⟨.any,1,false⟩),(58,⟨.any,1,false⟩),(59,⟨.st [(0,1,false),(1,1,false),(2,1,false)] [.slice none 0 0,.int .i64 0,.int .i64 0],3,true⟩),(60,⟨.st [(0,1,false),(1,1,false),(2,1,false)] [.slice none 0 0,.int .i64 0,.int .i64 0],3,true⟩),(61,⟨.any,1,false⟩),(62,⟨.st [(0,1,false),(1,1,false),(2,6,true),(8,1,false)] [.int .i64 0,.string ⟨⟨[]⟩⟩,.int .i64 0,.int .i64 0,.string ⟨⟨[]⟩⟩,.string ⟨⟨[]⟩⟩,.bool false,.int .i64 0,.int .i64 0],9,true⟩),(63,⟨.st [(0,1,false),(1,1,false),(2,6,true),(8,1,false)] [.int .i64 0,.string ⟨⟨[]⟩⟩,.int .i64 0,.int .i64 0,.string ⟨⟨[]⟩⟩,.string ⟨⟨[]⟩⟩,.bool false,.int .i64 0,.int .i64 0],9,true⟩),(64,⟨.any,1,false⟩),(65,⟨.any,1,false⟩),(66,⟨.any,1,false⟩),(67,⟨.st [(0,1,false),(1,1,false),(2,1,false)] [.bool false,.string ⟨⟨[]⟩⟩,.int .i64 0],3,true⟩),(68,⟨.st [(0,1,false),(1,1,false),(2,1,false)] [.bool false,.string ⟨⟨[]⟩⟩,.int .i64 0],3,true⟩),(69,⟨.row 68 3,1,false⟩),(70,⟨.row 68 3,1,false⟩),(71,⟨.any,1,false⟩),(72,⟨.row 23 1,1,false⟩),(73,⟨.any,1,false⟩),(74,⟨.any,1,false⟩),(75,⟨.any,1,false⟩),(76,⟨.any,1,false⟩),(77,⟨.any,1,false⟩),(78,⟨.any,1,false⟩),(79,⟨.any,1,false⟩),(80,⟨.any,1,false⟩),(81,⟨.st [(0,1,false),(1,1,false)] [.int .i64 0,.int .i64 0],2,true⟩),(82,⟨.st [(0,1,false),(1,1,false)] [.int .i64 0,.int .i64 0],2,true⟩),(83,⟨.any,1,false⟩),(84,⟨.any,1,false⟩),(85,⟨.st [(0,1,false),(1,1,false),(2,1,false)] [.slice none 0 0,.int .i64 0,.int .i64 0],3,true⟩),(86,⟨.st [(0,1,false),(1,1,false),(2,1,false)] [.slice none 0 0,.int .i64 0,.int .i64 0],3,true⟩),(87,⟨.any,1,false⟩),(88,⟨.any,1,false⟩),(89,⟨.any,1,false⟩),(90,⟨.st [] [],0,true⟩),(91,⟨.st [] [],0,true⟩),(92,⟨.st [] [],0,true⟩),(93,⟨.int .u32,1,false⟩),(94,⟨.any,1,true⟩),(95,⟨.any,1,true⟩),(96,⟨.st [(0,1,false),(1,1,false)] [.int .i32 0,.int .u32 0],2,true⟩),(97,⟨.st [(0,1,false),(1,1,false)] [.int .i32 0,.int .u32 0],2,true⟩),(98,⟨.any,2,true⟩),(99,⟨.any,2,true⟩),(100,⟨.any,3,true⟩),(101,⟨.any,3,true⟩),(102,⟨.any,1,false⟩),(103,⟨.st [(0,3,true),(3,1,false)] [.int .u32 0,.int .i32 0,.int .u32 0,.map none],4,true⟩),(104,⟨.st [(0,3,true),(3,1,false)] [.int .u32 0,.int .i32 0,.int .u32 0,.map none],4,true⟩),(105,⟨.any,1,false⟩),(106,⟨.any,1,false⟩),(107,⟨.any,1,false⟩),(108,⟨.any,1,false⟩),(109,⟨.any,1,false⟩),(110,⟨.row 5 1,1,false⟩),(111,⟨.any,1,false⟩),(112,⟨.any,1,false⟩),(113,⟨.any,1,false⟩),(114,⟨.st [(0,1,false),(1,6,true)] [.int .i64 0,.int .i64 0,.int .i64 0,.string ⟨⟨[]⟩⟩,.string ⟨⟨[]⟩⟩,.bool false,.int .i64 0],7,true⟩),(115,⟨.st [(0,1,false),(1,6,true)] [.int .i64 0,.int .i64 0,.int .i64 0,.string ⟨⟨[]⟩⟩,.string ⟨⟨[]⟩⟩,.bool false,.int .i64 0],7,true⟩),(116,⟨.any,1,false⟩),(117,⟨.any,1,false⟩),(118,⟨.any,1,false⟩),(119,⟨.any,1,false⟩),(120,⟨.row 115 7,1,false⟩),(121,⟨.any,1,false⟩),(122,⟨.any,1,false⟩),(123,⟨.any,1,false⟩),(124,⟨.any,1,false⟩),(125,⟨.any,256,true⟩),(126,⟨.any,256,true⟩),(127,⟨.any,1,false⟩),(128,⟨.any,1,false⟩),(129,⟨.any,1,false⟩),(130,⟨.any,1,false⟩),(131,⟨.any,1,false⟩),(132,⟨.any,1,false⟩),(133,⟨.any,1,false⟩),(134,⟨.any,1,false⟩),(135,⟨.any,1,false⟩),(136,⟨.any,1,false⟩),(137,⟨.any,1,false⟩),(138,⟨.any,1,false⟩),(139,⟨.any,1,false⟩),(140,⟨.any,1,false⟩),(141,⟨.any,1,false⟩),(142,⟨.any,1,false⟩),(143,⟨.any,1,false⟩),(144,⟨.any,1,false⟩),(145,⟨.any,1,false⟩),(146,⟨.any,1,false⟩),(147,⟨.any,1,false⟩),(148,⟨.any,1,false⟩),(149,⟨.any,1,false⟩),(150,⟨.any,1,false⟩),(151,⟨.any,1,false⟩),(152,⟨.any,1,false⟩),(153,⟨.row 46 6,1,false⟩),(154,⟨.row 46 6,1,false⟩),(155,⟨.any,1,false⟩),(156,⟨.any,1,false⟩),(157,⟨.any,1,false⟩),(158,⟨.any,1,false⟩),(159,⟨.any,1,false⟩),(160,⟨.any,1,false⟩),(161,⟨.any,1,false⟩),(162,⟨.st [(0,1,false),(1,1,false)] [.pointer none,.slice none 0 0],2,true⟩),(163,⟨.st [(0,1,false),(1,1,false)] [.pointer none,.slice none 0 0],2,true⟩),(164,⟨.any,1,false⟩),(165,⟨.any,1,false⟩),(166,⟨.any,1,false⟩),(167,⟨.any,1,false⟩),(168,⟨.any,1,false⟩),(169,⟨.any,1,false⟩),(170,⟨.any,1,false⟩),(171,⟨.any,1,false⟩),(172,⟨.any,1,false⟩),(173,⟨.any,1,false⟩),(174,⟨.any,1,false⟩),(175,⟨.any,1,false⟩),(176,⟨.any,1,false⟩),(177,⟨.any,1,false⟩),(178,⟨.any,1,false⟩),(179,⟨.any,1,false⟩),(180,⟨.any,1,false⟩),(181,⟨.any,1,false⟩),(182,⟨.any,1,false⟩),(183,⟨.any,1,false⟩),(184,⟨.any,1,false⟩),(185,⟨.any,1,false⟩),(186,⟨.any,1,false⟩),(187,⟨.any,1,false⟩),(188,⟨.any,1,false⟩),(189,⟨.any,1,false⟩),(190,⟨.any,1,false⟩),(191,⟨.any,1,false⟩),(192,⟨.int .u64,1,false⟩),(193,⟨.any,1,false⟩),(194,⟨.any,1,false⟩),(195,⟨.any,1,false⟩),(196,⟨.any,1,false⟩),(197,⟨.any,1,false⟩),(198,⟨.any,1,false⟩),(199,⟨.any,1,false⟩),(200,⟨.any,1,false⟩),(201,⟨.any,1,false⟩),(202,⟨.any,1,false⟩),(203,⟨.any,256,true⟩),(204,⟨.any,1,false⟩),(205,⟨.any,1,false⟩),(206,⟨.any,1,false⟩),(207,⟨.any,1,false⟩),(208,⟨.any,1,false⟩),(209,⟨.any,1,false⟩),(210,⟨.any,1,false⟩),(211,⟨.any,1,false⟩),(212,⟨.any,1,false⟩),(213,⟨.any,1,false⟩),(214,⟨.any,1,false⟩),(215,⟨.any,1,false⟩),(216,⟨.any,1,false⟩),(217,⟨.any,1,false⟩),(218,⟨.any,1,false⟩),(219,⟨.any,1,false⟩),(220,⟨.any,1,false⟩),(221,⟨.any,1,false⟩),(222,⟨.int .i64,1,false⟩),(223,⟨.any,1,false⟩),(224,⟨.any,1,false⟩),(225,⟨.any,1,false⟩),(226,⟨.any,1,false⟩),(227,⟨.any,1,false⟩),(228,⟨.any,1,false⟩),(229,⟨.any,1,false⟩),(230,⟨.int .u64,1,false⟩),(231,⟨.st [(0,1,false),(1,1,false)] [.int .u8 0,.int .u8 0],2,true⟩),(232,⟨.st [(0,1,false),(1,1,false)] [.int .u8 0,.int .u8 0],2,true⟩),(233,⟨.any,32,true⟩),(234,⟨.any,1,false⟩),(235,⟨.any,1,false⟩),(236,⟨.any,1,false⟩),(237,⟨.any,1,false⟩),(238,⟨.any,1,false⟩),(239,⟨.any,1,false⟩),(240,⟨.any,1,false⟩),(241,⟨.any,1,false⟩),(242,⟨.any,1,false⟩),(243,⟨.row 245 2,1,false⟩),(244,⟨.st [(0,1,false),(1,1,false)] [.int .i64 0,.int .i64 0],2,true⟩),(245,⟨.st [(0,1,false),(1,1,false)] [.int .i64 0,.int .i64 0],2,true⟩),(246,⟨.any,1,false⟩),(247,⟨.any,1,false⟩),(248,⟨.int .i64,1,false⟩),(249,⟨.any,1,false⟩),(250,⟨.any,1,false⟩),(251,⟨.any,1,false⟩),(252,⟨.any,1,false⟩),(253,⟨.any,1,false⟩),(254,⟨.any,1,false⟩),(255,⟨.any,1,false⟩),(256,⟨.any,1,false⟩),(257,⟨.any,1,false⟩),(258,⟨.any,1,false⟩),(259,⟨.any,1,false⟩),(260,⟨.any,1,false⟩),(261,⟨.any,1,false⟩),(262,⟨.any,1,false⟩),(263,⟨.any,1,false⟩),(264,⟨.any,1,false⟩),(265,⟨.int .u64,1,false⟩),(266,⟨.any,1,false⟩),(267,⟨.any,1,false⟩),(268,⟨.any,1,false⟩),(269,⟨.any,1,false⟩),(270,⟨.any,1,false⟩),(271,⟨.any,1,false⟩),(272,⟨.any,1,false⟩),(273,⟨.any,1,false⟩),(274,⟨.row 280 3,1,false⟩),(275,⟨.row 283 3,1,false⟩),(276,⟨.st [(0,1,false),(1,1,false),(2,1,false)] [.slice none 0 0,.slice none 0 0,.int .i64 0],3,true⟩),(277,⟨.st [(0,1,false),(1,1,false),(2,1,false)] [.slice none 0 0,.slice none 0 0,.int .i64 0],3,true⟩),(278,⟨.int .u16,1,false⟩),(279,⟨.st [(0,1,false),(1,1,false),(2,1,false)] [.int .u16 0,.int .u16 0,.int .u16 0],3,true⟩),(280,⟨.st [(0,1,false),(1,1,false),(2,1,false)] [.int .u16 0,.int .u16 0,.int .u16 0],3,true⟩),(281,⟨.any,1,false⟩),(282,⟨.st [(0,1,false),(1,1,false),(2,1,false)] [.int .u32 0,.int .u32 0,.int .u32 0],3,true⟩),(283,⟨.st [(0,1,false),(1,1,false),(2,1,false)] [.int .u32 0,.int .u32 0,.int .u32 0],3,true⟩),(284,⟨.any,1,false⟩),(285,⟨.st [(0,1,false),(1,1,false),(2,1,false)] [.string ⟨⟨[]⟩⟩,.string ⟨⟨[]⟩⟩,.nilIface],3,true⟩),(286,⟨.st [(0,1,false),(1,1,false),(2,1,false)] [.string ⟨⟨[]⟩⟩,.string ⟨⟨[]⟩⟩,.nilIface],3,true⟩),(287,⟨.any,1,false⟩),(288,⟨.any,1,false⟩),(289,⟨.any,1,false⟩),(290,⟨.any,1,false⟩),(291,⟨.any,1,false⟩),(292,⟨.any,1,false⟩),(293,⟨.any,1,false⟩),(294,⟨.any,1,false⟩),(295,⟨.any,1,false⟩),(296,⟨.any,1,false⟩),(297,⟨.any,1,false⟩),(298,⟨.any,1,false⟩),(299,⟨.any,1,false⟩),(300,⟨.any,1,false⟩),(301,⟨.any,1,false⟩),(302,⟨.any,1,false⟩),(303,⟨.any,1,false⟩),(304,⟨.any,1,false⟩),(305,⟨.any,1,false⟩),(306,⟨.st [(0,1,false)] [.string ⟨⟨[]⟩⟩],1,true⟩),(307,⟨.st [(0,1,false)] [.string ⟨⟨[]⟩⟩],1,true⟩),(308,⟨.any,1,false⟩),(309,⟨.any,1,false⟩),(310,⟨.any,1,false⟩),(311,⟨.any,1,false⟩),(312,⟨.any,1,false⟩),(313,⟨.any,1,false⟩),(314,⟨.any,1,false⟩),(315,⟨.any,1,false⟩),(316,⟨.any,1,false⟩),(317,⟨.any,1,false⟩),(318,⟨.any,1,false⟩),(319,⟨.any,1,false⟩),(320,⟨.any,1,false⟩),(321,⟨.any,1,false⟩),(322,⟨.any,1,false⟩),(323,⟨.any,1,false⟩),(324,⟨.any,1,false⟩),(325,⟨.any,24,true⟩),(326,⟨.any,1,false⟩),(327,⟨.any,1,false⟩),(328,⟨.any,1,false⟩),(329,⟨.any,1,false⟩),(330,⟨.any,20,true⟩),(331,⟨.any,65,true⟩),(332,⟨.st [(0,1,false),(1,1,false),(2,1,false),(3,1,false)] [.int .i64 0,.int .i64 0,.bool false,.string ⟨⟨[]⟩⟩],4,true⟩),(333,⟨.st [(0,1,false),(1,1,false),(2,1,false),(3,1,false)] [.int .i64 0,.int .i64 0,.bool false,.string ⟨⟨[]⟩⟩],4,true⟩),(334,⟨.row 333 4,1,false⟩),(335,⟨.any,1,false⟩),(336,⟨.any,1,false⟩),(337,⟨.any,1,false⟩),(338,⟨.any,1,false⟩),(339,⟨.any,32,true⟩),(340,⟨.any,64,true⟩),(341,⟨.st [(0,1,false),(1,1,false),(2,1,false),(3,1,false)] [.pointer none,.pointer none,.pointer none,.string ⟨⟨[]⟩⟩],4,true⟩),(342,⟨.st [(0,1,false),(1,1,false),(2,1,false),(3,1,false)] [.pointer none,.pointer none,.pointer none,.string ⟨⟨[]⟩⟩],4,true⟩),(343,⟨.any,0,true⟩),(344,⟨.any,0,true⟩),(345,⟨.any,0,true⟩),(346,⟨.int .u8,1,false⟩),(347,⟨.int .u8,1,false⟩),(348,⟨.any,1,false⟩),(349,⟨.int .i32,1,false⟩),(350,⟨.int .i32,1,false⟩),(351,⟨.st [(0,1,false),(1,1,false),(2,1,false),(3,1,false),(4,1,false),(5,1,false),(6,1,false),(7,1,false),(8,1,false),(9,1,false),(10,1,false)] [.int .u64 0,.int .u64 0,.int .u32 0,.int .u8 0,.int .u8 0,.int .u8 0,.int .u8 0,.nilFunc,.pointer none,.int .i32 0,.int .i32 0],11,true⟩),(352,⟨.st [(0,1,false),(1,1,false),(2,1,false),(3,1,false),(4,1,false),(5,1,false),(6,1,false),(7,1,false),(8,1,false),(9,1,false),(10,1,false)] [.int .u64 0,.int .u64 0,.int .u32 0,.int .u8 0,.int .u8 0,.int .u8 0,.int .u8 0,.nilFunc,.pointer none,.int .i32 0,.int .i32 0],11,true⟩)]
theorem AX:DI Tryz.prog tt:=cV (by decide+kernel)
instance:cW Tryz.prog:=⟨tt,AX⟩
end Go.Proofs.YtmjpjbmeamnfpaaGreatDoor
namespace Go.Eng
open Go.RowKit
theorem dG{P:Program}{σ:Type}{x:Code}{Q:Exit->Act->World->Prop}{a:Act}{w:World}(J:σ->Act->World->Prop)(μ:σ->Nat)(s₀:σ)(h₀:J s₀ a w)
  (round: ∀s a w,J s a w->x.wp P (Exit.then (λ a' w'=> ∃s',J s' a' w'/\μ s'<μ s) Q) a w):(Code.loop x).wp P Q a w:=by
 intro b k cs
 have key: ∀n s a w,μ s=n->J s a w->
   ∃e a' w',Q e a' w'/\Arrives P (lone (b.at a (.code x:: .inLoop x::k)) cs w) b k cs e a' w':=by
  intro n
  induction n using Nat.strongRecOn with
  |_ n ih=>
   intro s a w hn hJ
   obtain⟨e,a₁,w₁,hq,harr⟩:=round s a w hJ b (.inLoop x::k) cs
   cases e with
   |normal=>
    obtain⟨s',hJ',hlt⟩:=hq
    obtain⟨e₂,a₂,w₂,hq₂,harr₂⟩:=ih (μ s') (hn▸hlt) s' a₁ w₁ rfl hJ'
    exact⟨e₂,a₂,w₂,hq₂,.of_steps (Steps.trans harr (.one step_inLoop)) harr₂⟩
   |exit id=>exact⟨_,a₁,w₁,hq,.pass (x:=.inLoop x) U (λ _ _=>.inl (by simp)) harr⟩
   |goto l=>exact⟨_,a₁,w₁,hq,.pass (x:=.inLoop x) U (λ _ _=>.inl (by simp)) harr⟩
   |ret=>exact⟨_,a₁,w₁,hq,.pass (x:=.inLoop x) U (λ _ _=>.inl (by simp)) harr⟩
   |panic ch=>exact⟨_,a₁,w₁,hq,.pass (x:=.inLoop x) U (λ _ _=>.inl (by simp)) harr⟩
   |outgrown=>exact⟨_,a₁,w₁,hq,.pass (x:=.inLoop x) U (λ _ _=>.inl (by simp)) harr⟩
 obtain⟨e,a',w',hq,harr⟩:=key _ s₀ a w rfl h₀
 exact⟨e,a',w',hq,.of_steps (.one step_loop) harr⟩
theorem Q9{P:Program}{o:Oper}{a:Act}{w:World}{K K':Act->World->Prop}{Q:Exit->Act->World->Prop}(h:o.wp P a w K' (Exit.then K Q)):o.wp P a w K' Q:=by
 unfold Oper.wp at*
 generalize (execOp a.eval o).run P w=r at*
 cases r with
 |ok n w'=>cases n<;>first|exact h|(simp only[Oper.upon]at h ⊢;exact h)
 |halt s w'=>cases s<;>first|exact h|(simp only[Oper.upon]at h ⊢;exact h)
def CR:Code->Bool
 | .skip=>true
 | .seq x y=>CR x&&CR y
 | .cond _ x y=>CR x&&CR y
 | .loop x=>CR x
 | .block _ x=>CR x
 | .region _ ops _=>ops.toList.all λ o=>match o.op with
  | .defer _=>false
  |_=>true
 | .exit _=>true
 | .ret=>true
 |_=>false
structure Wk (P:Program)where
 wp:Code->(Exit->Act->World->Prop)->Act->World->Prop
 list:Array Oper->(Exit->Act->World->Prop)->List Oper->Act->World->Prop
 mono: ∀ {x:Code} {Q Q':Exit->Act->World->Prop} {a:Act} {w:World},wp x Q a w->(∀e a w,Q e a w->Q' e a w)->wp x Q' a w
 skip: ∀ {Q:Exit->Act->World->Prop} {a:Act} {w:World},Q .normal a w->wp .skip Q a w
 seq: ∀ {x y:Code} {Q:Exit->Act->World->Prop} {a:Act} {w:World},wp x (Exit.then (wp y Q) Q) a w->wp (.seq x y) Q a w
 region: ∀ {id:Nat} {ops:Array Oper} {Q:Exit->Act->World->Prop} {a:Act} {w:World},list ops Q ops.toList a w->wp (.region id ops false) Q a w
 plain:Prop
 draw:plain-> ∀ {id:Nat} {ops:Array Oper} {Q:Exit->Act->World->Prop} {a:Act} {w:World},(Code.region id ops true).wp P Q a w->wp (.region id ops true) Q a w
 drawS: ∀ {id:Nat} {ops:Array Oper} {Q:Exit->Act->World->Prop} {a:Act} {w:World},(∀t,wpOps P ops Q (Region.schedule (P.follows .mixedOrders) ops t) a { w with drawn:=w.drawn+1})->wp (.region id ops true) Q a w
 block: ∀ {id:Nat} {x:Code} {Q:Exit->Act->World->Prop} {a:Act} {w:World},wp x (Exit.inBlock id Q) a w->wp (.block id x) Q a w
 scope: ∀ {x:Code} {Q:Exit->Act->World->Prop} {a:Act} {w:World},wp x (Exit.noGoto Q) a w->wp (.scope x) Q a w
 exit: ∀ {id:Nat} {Q:Exit->Act->World->Prop} {a:Act} {w:World},Q (.exit id) a w->wp (.exit id) Q a w
 ret: ∀ {Q:Exit->Act->World->Prop} {a:Act} {w:World},Q .ret a w->wp .ret Q a w
 cond: ∀ {o:Operand} {x y:Code} {t:Bool} {Q:Exit->Act->World->Prop} {a:Act} {w:World},a.eval o= .bool t->wp (if t=true then x else y) Q a w->wp (.cond o x y) Q a w
 loop: ∀ {σ:Type} {x:Code} {Q:Exit->Act->World->Prop} {a:Act} {w:World} (J:σ->Act->World->Prop) (μ:σ->Nat) (s₀:σ),J s₀ a w->
  (∀s a w,J s a w->wp x (Exit.then (λ a' w'=> ∃s',J s' a' w'/\μ s'<μ s) Q) a w)->wp (.loop x) Q a w
 nil: ∀ {ops:Array Oper} {Q:Exit->Act->World->Prop} {a:Act} {w:World},Q .normal a w->list ops Q [] a w
 one: ∀ {ops:Array Oper} {Q:Exit->Act->World->Prop} {o:Oper} {rest:List Oper} {a:Act} {w:World},wpList P ops (Exit.then (list ops Q rest) Q) [o] a w->list ops Q (o::rest) a w
 want: ∀ {ops:Array Oper} {Q:Exit->Act->World->Prop} {d:Option Tmp} {op:Op} {ty:TypeId} {ps:String} {af:Array Edge} {gd:Option (Nat×Bool)} {rest:List Oper} {a:Act} {w:World},
  Region.wanted ⟨d,op,ty,ps,af,gd⟩ (yielded ops a.tmps)=true->list ops Q (⟨d,op,ty,ps,af,none⟩::rest) a w->list ops Q (⟨d,op,ty,ps,af,gd⟩::rest) a w
def Wk.wide (P:Program):Wk P where
 wp:=λ x Q a w=>x.wp P Q a w
 list:=λ ops Q l a w=>wpList P ops Q l a w
 mono:=wp_mono
 skip:=wp_skip
 seq:=wp_seq
 region:=wp_region_list
 plain:=True
 draw:=λ _=>id
 drawS:=wp_region_draw
 block:=wp_block
 scope:=wp_scope_straight
 exit:=wp_exit
 ret:=wp_ret
 cond:=wp_cond
 loop:=dG
 nil:=wpList_nil
 one:=λ{ops Q o rest a w} h=>by
  unfold wpList at h ⊢
  split at h
  ·rename_i hw;rw[if_pos hw]
   rcases h with h|⟨h1,a',w',h2⟩
   ·exact .inl (Q9 h)
   ·exact .inr ⟨h1,a',w',h2⟩
  ·rename_i hw;rw[if_neg hw];exact h
 want:=λ{ops Q d op ty ps af gd rest a w} hw h=>by
  unfold wpList at h ⊢
  rw[hw,if_pos U]
  rw[show Region.wanted ⟨d,op,ty,ps,af,none⟩ (yielded ops a.tmps)=true from rfl,if_pos U]at h
  exact h
theorem Wk.back {P:Program}(W:Wk P){ops:Array Oper}{Q:Exit->Act->World->Prop}{rest:List Oper}{a:Act}{w:World}(h:W.list ops Q rest a w):wpList P ops (Exit.then (W.list ops Q rest) Q) [] a w:=h
end Go.Eng
namespace Go.Eng
open Go.RowKit
universe u
structure XS:Type 1 where
 F:List (Nat×Kn)
 H:List (Nat×HX)
 L:XE
structure Cx where
 P:Program
 N:Nat
 w0:World
 M0:Mem
 M1:Mem
 Hr:List HO
 T:TT
 hT:DI P T
 W:Wk P
structure D4 (c:Cx) (F:List (Nat×Kn)) (H:List (Nat×HX)) (w:World) (M:Mem):Prop where
 st:St c.w0 c.M0 w M (HD H++c.Hr)
 f:B7 M F
 le:c.M1.le M
def FJ(c:Cx)(s:XS)(a:Act)(w:World):Prop:=AF a c.N s.L.d/\ ∃M,D4 c s.F s.H w M
inductive Fr:Type 1 where
 |seq (y:Code)
 |block (id:Nat)
 |scope
 |loop (J:XS->Prop)
def post(c:Cx)(B:Exit->Act->World->Prop):List Fr->(Exit->Act->World->Prop)
 |[]=>B
 | .seq y::k=>Exit.then (c.W.wp y (post c B k)) (post c B k)
 | .block id::k=>Exit.inBlock id (post c B k)
 | .scope::k=>Exit.noGoto (post c B k)
 | .loop J::k=>Exit.then (λ a w=> ∃s,J s/\FJ c s a w) (post c B k)
inductive Md where
 |code (c:Code)
 |ops (all:Array Oper) (l:List Oper)
 |br (b:Bool) (x y:Code)
 |next
 |exit (id:Nat)
 |ret
def XG(c:Cx)(B:Exit->Act->World->Prop)(k:List Fr)(m:Md)(s:XS):Prop:= ∀a w,FJ c s a w->match m with
 | .code x=>c.W.wp x (post c B k) a w
 | .ops all l=>c.W.list all (post c B k) l a w
 | .br b x y=>c.W.wp (if b=true then x else y) (post c B k) a w
 | .next=>post c B k .normal a w
 | .exit id=>post c B k (.exit id) a w
 | .ret=>post c B k .ret a w
structure QA:Type 1 where
 k:List Fr
 m:Md
 s:XS
 O:Prop
 E:List Ck
def GY(
     all:Array Oper) (L:XE) (gd:Option (Nat×Bool)):Option Gd:=
 match gd with
 |none=>some .t
 |some (
     j,want)=>match nth all.toList j with
  |some o=>match o.dst with
   |some d=>match B6 L d with
    |some (g,v)=>match JQ v with
     |some b=>match want with
      |true=>match g with
       | .t=>some (.g b)
       | .g a=>some (.g (a&&b))
      |false=>match g with
       | .t=>some (.g (!b))
       | .g a=>some (.g (a&& !b))
     |none=>none
    |none=>none
   |none=>none
  |none=>none
def imp(W:Gd):List Prop->Prop->(Prop->QA)->QA
 |[],O,K=>K O
 |p::ps,O,K=>match W with
  | .t=>imp W ps (p/\O) K
  | .g b=>imp W ps ((b=false\/p)/\O) K
def QB(F:List (Nat×Kn))(H:List (Nat×HX)):List XV->Option (List Ck)
 |[]=>some []
 |x::l=>match QB F H l with
  |some E=>match x with
   | .v u=>match u.oneCell' with
    |true=>some E
    |false=>none
   | .sl k u=>match ME F H k with
    |some (@Kn.mk α inh kv sz l f g' hg')=>some (.v u kv::E)
    |none=>none
   | .el _ _ _ _ _=>some E
   | .bx _ _ _=>some E
   |_=>none
  |none=>none
def X7(T:TT)(F:List (Nat×Kn))(H:List (Nat×HX))(L:XE)(t:TypeId)(x y:Operand):Option (List (Nat×HX)×List Ck):=
 match IS L .t x y with
 |some (
     a,v,E)=>match a with
  | .bx k b o=>match F5 H k with
   |some (
       .box b' cs t')=>match GD T t with
    |some ⟨_,n,_⟩=>match cellsOf v with
     |some vs=>match Nat.beq vs.length n with
      |true=>match QB F H vs with
       |some E1=>match I3 cs o vs with
        |some cs'=>some (DH H k (.box b' cs' t'),.n b b'::(E1++E))
        |none=>none
       |none=>none
      |false=>none
     |none=>none
    |none=>none
   |_=>none
  |_=>none
 |none=>none
def exec(
     T:TT) (N:Nat):Nat->List Fr->Md->List (Nat×Kn)->List (Nat×HX)->XE->Prop->List Ck->QA
 |0,k,m,F,H,L,O,E=>⟨k,m,⟨F,H,L⟩,O,E⟩
 |n+1,k,m,F,H,L,O,E=>match m with
  | .code c=>match c with
   | .skip=>exec T N n k .next F H L O E
   | .seq x y=>exec T N n (.seq y::k) (.code x) F H L O E
   | .region id all draw=>match draw with
    |false=>exec T N n k (.ops all all.toList) F H L O E
    |true=>⟨k,m,⟨F,H,L⟩,O,E⟩
   | .block id x=>exec T N n (.block id::k) (.code x) F H L O E
   | .scope x=>exec T N n (.scope::k) (.code x) F H L O E
   | .exit id=>exec T N n k (.exit id) F H L O E
   | .ret=>⟨[],.ret,⟨F,H,L⟩,O,E⟩
   | .cond x a b=>match BI L .t x with
    |some (v,E')=>match JQ v with
     |some p=>⟨k,.br p a b,⟨F,H,L⟩,O,E'++E⟩
     |none=>⟨k,m,⟨F,H,L⟩,O,E⟩
    |none=>⟨k,m,⟨F,H,L⟩,O,E⟩
   |_=>⟨k,m,⟨F,H,L⟩,O,E⟩
  | .next=>match k with
   | .seq y::k'=>exec T N n k' (.code y) F H L O E
   | .block _::k'=>exec T N n k' .next F H L O E
   | .scope::k'=>exec T N n k' .next F H L O E
   |_=>⟨k,m,⟨F,H,L⟩,O,E⟩
  | .exit id=>match k with
   | .block id'::k'=>match Nat.beq id id' with
    |true=>exec T N n k' .next F H L O E
    |false=>exec T N n k' (.exit id) F H L O E
   | .seq _::k'=>exec T N n k' (.exit id) F H L O E
   | .scope::k'=>exec T N n k' (.exit id) F H L O E
   | .loop _::k'=>exec T N n k' (.exit id) F H L O E
   |[]=>⟨k,m,⟨F,H,L⟩,O,E⟩
  | .ops all l=>match l with
   |[]=>exec T N n k .next F H L O E
   |⟨dst,op,ty,ps,af,gd⟩::rest=>match dst with
    |some d=>match GY all L gd with
     |some W=>match O0 T F H L W op with
      |some (v,p,E')=>match Nat.blt d N with
       |true=>imp W p O λ O'=>exec T N n k (.ops all rest) F H ((d,W,v)::L) O' (E'++E)
       |false=>⟨k,m,⟨F,H,L⟩,O,E⟩
      |none=>⟨k,m,⟨F,H,L⟩,O,E⟩
     |none=>⟨k,m,⟨F,H,L⟩,O,E⟩
    |none=>match gd with
     |none=>match op with
      | .store t x y=>match X7 T F H L t x y with
       |some (H',E')=>exec T N n k (.ops all rest) F H' L O (E'++E)
       |none=>⟨k,m,⟨F,H,L⟩,O,E⟩
      |_=>⟨k,m,⟨F,H,L⟩,O,E⟩
     |some _=>⟨k,m,⟨F,H,L⟩,O,E⟩
  |_=>⟨k,m,⟨F,H,L⟩,O,E⟩
def QC{α:Type u}:List (Nat×α)->Option (List (Nat×α))
 |[]=>some []
 |(k,x)::L=>match QC L with
  |some L'=>some ((k,x)::L')
  |none=>none
theorem X8{α:Type u}: ∀ {L L':List (Nat×α)},QC L=some L'->L'=L
 |[],_,h=>by cases h;rfl
 |(k,x)::L,L',h=>by
  unfold QC at h
  split at h
  ·rename_i L2 h2;cases h;rw[X8 h2]
  ·cases h
def TE:XE->Option XE
 |[]=>some []
 |(k,g,v)::L=>match TE L with
  |some L'=>some ((k,g,v)::L')
  |none=>none
theorem dH: ∀ {L L':XE},TE L=some L'->L'=L
 |[],_,h=>by cases h;rfl
 |(k,g,v)::L,L',h=>by
  unfold TE at h
  split at h
  ·rename_i L2 h2;cases h;rw[dH h2]
  ·cases h
def run(T:TT)(N:Nat)(k:List Fr)(m:Md)(s:XS):QA:=
 match s with
 |⟨F,H,L⟩=>match QC F with
  |some F'=>match QC H with
   |some H'=>match TE L with
    |some L'=>exec T N 10000 k m F' H' L' ((0:Int)=0) []
    |none=>exec T N 10000 k m F H L ((0:Int)=0) []
   |none=>exec T N 10000 k m F H L ((0:Int)=0) []
  |none=>exec T N 10000 k m F H L ((0:Int)=0) []
theorem X9{W:Gd}{K:Prop->QA}: ∀ {ps:List Prop} {O:Prop},∃O',imp W ps O K=K O'/\(O'->(W.d=true->GF ps)/\O)
 |[],O=>⟨O,rfl,λ h=>⟨λ _=>trivial,h⟩⟩
 |p::ps,O=>by
  unfold imp
  cases W with
  |t=>
   obtain⟨O',h1,h2⟩:=X9 (W:=.t) (K:=K) (ps:=ps) (O:=p/\O)
   exact⟨O',h1,λ h=>⟨λ hW=>⟨(h2 h).2.1,(h2 h).1 hW⟩,(h2 h).2.2⟩⟩
  |g b=>
   obtain⟨O',h1,h2⟩:=X9 (W:=.g b) (K:=K) (ps:=ps) (O:=(b=false\/p)/\O)
   exact⟨O',h1,λ h=>⟨λ hW=>⟨(h2 h).2.1.resolve_left (by rw[show b=true from hW];decide),(h2 h).1 hW⟩,(h2 h).2.2⟩⟩
section
variable {c:Cx} {B:Exit->Act->World->Prop} {k:List Fr} {s:XS}
theorem QD(a:Act)(w:World)(h:B .ret a w): ∀k:List Fr,post c B k .ret a w
 |[]=>h
 | .seq _::k=>QD a w h k
 | .block _::k=>QD a w h k
 | .scope::k=>QD a w h k
 | .loop _::k=>QD a w h k
theorem JS{all:Array Oper}{L:XE}{gd:Option (Nat×Bool)}{W:Gd}(h:GY all L gd=some W):CG all L.d gd W.d:=by
 unfold GY at h
 split at h
 ·cases h;exact .none
 ·rename_i j want
  split at h
  ·rename_i o ho
   split at h
   ·rename_i d hd
    split at h
    ·rename_i g v hl
     split at h
     ·rename_i b hb
      have:=L8 hb;subst this
      have hl':=FT hl
      have hj:(all[j]?).bind (·.dst)=some d:=by
       rw[FU]at ho
       simp only[Array.getElem?_toList]at ho
       rw[ho];exact hd
      split at h
      ·split at h<;>cases h
       ·exact .pos hj hl'
       ·exact .GQ hj hl'
      ·split at h<;>cases h
       ·exact .neg hj hl'
       ·exact .aT hj hl'
     ·cases h
    ·cases h
   ·cases h
  ·cases h
theorem O4{w0 w:World}{M0 M:Mem}{F:List (Nat×Kn)}{H:List (Nat×HX)}{Hr:List HO}(hF:B7 M F)(hS:St w0 M0 w M (HD H++Hr)): ∀ {vs:List XV} {E:List Ck},QB F H vs=some E->A6 E-> ∀u∈vs.map XV.d0,u.oneCell'=true
 |[],_,_,_=>λ u hu=>by cases hu
 |x::l,E,h,hE=>by
  unfold QB at h
  split at h
  ·rename_i E' h1
   split at h
   ·split at h
    ·rename_i hx
     cases h
     intro u hu
     rcases List.mem_cons.1 hu with rfl|hu
     ·exact hx
     ·exact O4 hF hS h1 hE u hu
    ·cases h
   ·rename_i k u
    split at h
    ·rename_i α inh kv sz l f g' hg' hK
     simp only[Option.some.injEq]at h;subst h
     intro u' hu
     rcases List.mem_cons.1 hu with rfl|hu
     ·have hh:_=kv:=hE _ (.head _)
      obtain⟨M2,Hs2,hS2,hK2⟩:=Q3 hF hS hK
      exact hh▸cN hK2
     ·exact O4 hF hS h1 (λ c hc=>hE c (.tail _ hc)) _ hu
    ·cases h
   ·cases h
    intro u hu
    rcases List.mem_cons.1 hu with rfl|hu
    ·rfl
    ·exact O4 hF hS h1 hE u hu
   ·cases h
    intro u hu
    rcases List.mem_cons.1 hu with rfl|hu
    ·rfl
    ·exact O4 hF hS h1 hE u hu
   ·cases h
  ·cases h
theorem dI{v:XV}{vs:List XV}(h:cellsOf v=some vs):v.d.cells.toList=vs.map XV.d0\/ ∃u,vs=[u]/\v=u/\(∀cs,u≠ .ag cs)/\(∀cs,u≠ .tu cs):=by
 unfold cellsOf at h
 split at h
 ·cases h;left;simp[XV.d,XV.d1,Value.cells]
 ·cases h
 ·rename_i h1 h2
  cases h;right
  exact⟨_,rfl,rfl,h1,h2⟩
theorem qD{H':List (Nat×HX)}{E:List Ck}{t:TypeId}{x y:Operand}{all:Array Oper}{Q:Exit->Act->World->Prop}{rest:List Oper}{ty:TypeId}{ps:String}{af:Array Edge}(h:X7 c.T s.F s.H s.L t x y=some (H',E))(hE:A6 E){w:World}{M:Mem}(hX:D4 c s.F s.H w M)
  (hn: ∀a w,FJ c ⟨s.F,H',s.L⟩ a w->wpList c.P all Q rest a w) (a:Act) (w':World) (hsl:AF a c.N s.L.d) (hw:w'=w:=by rfl):wpList c.P all Q (⟨none,.store t x y,ty,ps,af,none⟩::rest) a w':=by
 subst hw
 unfold X7 at h
 split at h
 ·rename_i va v E0 h1
  split at h
  ·rename_i k b o
   split at h
   ·rename_i b' cs t' h2
    split at h
    ·rename_i _ n _ h3
     split at h
     ·rename_i vs h4
      split at h
      ·rename_i hl
       have hl':vs.length=n:=Nat.eq_of_beq_eq_true hl
       split at h
       ·rename_i E1 h5
        split at h
        ·rename_i cs' h6
         simp only[Option.some.injEq,Prod.mk.injEq]at h;obtain⟨rfl,rfl⟩:=h
         have hb:b=b':=hE _ (.head _)
         subst hb
         have hE2:A6 (E1++E0):=λ c hc=>hE c (.tail _ hc)
         obtain⟨hx,hy⟩:=JP h1 hE2.app.2
         have h1c:=O4 hX.f hX.st h5 hE2.app.1
         have hcells:v.d.cells.toList=vs.map XV.d0:=by
          rcases dI h4 with h7|⟨u,rfl,rfl,h8,h9⟩
          ·exact h7
          ·have e:v.d=v.d0:=by cases v<;>first|rfl|(exact absurd rfl (h8 _))|(exact absurd rfl (h9 _))
           rw[e,T7 (h1c _ (by simp))];rfl
         obtain⟨i,hi,hst2⟩:=GW (Hr:=c.Hr) h2
         obtain⟨e6,hf6⟩:=put_eq _ _ _ _ h6
         refine RL.VW (P:=c.P) (N:=c.N) (ops:=all) (Q:=Q) (rest:=rest) (L:=s.L.d) (cs':=cs'.map XV.d0) (Hs':=HD (DH s.H k (.box b cs' t'))++c.Hr) hX.st hi hx hy (c.hT _ _ h3).size (by rw[hcells,List.length_map];exact hl') (Nat.ble_eq_true_of_le (by rw[List.length_map];show o+n<=cs.length;omega)) (by rw[hcells];exact List.all_eq_true.2 h1c) ?_ ?_ ?_ a hsl
         ·unfold F4;rw[hcells,e6];simp[List.map_take,List.map_drop]
         ·exact(hst2 (.box b cs' t')).symm
         ·intro w2 hS2 a2 hs2
          exact hn a2 w2 ⟨hs2,M,hS2,hX.f,hX.le⟩
        ·cases h
       ·cases h
      ·cases h
     ·cases h
    ·cases h
   ·cases h
  ·cases h
 ·cases h
theorem ET: ∀(n:Nat) (k:List Fr) (m:Md) (F:List (Nat×Kn)) (H:List (Nat×HX)) (L:XE) (O:Prop) (E:List Ck),let t:=exec c.T c.N n k m F H L O E;t.O->A6 t.E->XG c B t.k t.m t.s->O/\A6 E/\XG c B k m ⟨F,H,L⟩
 |0,k,m,F,H,L,O,E=>λ h1 h2 h3=>⟨h1,h2,h3⟩
 |n+1,k,m,F,H,L,O,E=>by
  intro t h1 h2 h3
  have ht:t=exec c.T c.N (n+1) k m F H L O E:=rfl
  unfold exec at ht
  split at ht
  ·rename_i x
   split at ht
   ·rw[ht]at h1 h2 h3
    obtain⟨r1,r2,r3⟩:=ET n _ _ _ _ _ _ _ h1 h2 h3
    exact⟨r1,r2,λ a w hs=>c.W.skip (r3 a w hs)⟩
   ·rw[ht]at h1 h2 h3
    obtain⟨r1,r2,r3⟩:=ET n _ _ _ _ _ _ _ h1 h2 h3
    exact⟨r1,r2,λ a w hs=>c.W.seq (r3 a w hs)⟩
   ·split at ht
    ·rw[ht]at h1 h2 h3
     obtain⟨r1,r2,r3⟩:=ET n _ _ _ _ _ _ _ h1 h2 h3
     exact⟨r1,r2,λ a w hs=>c.W.region (r3 a w hs)⟩
    ·rw[ht]at h1 h2 h3;exact⟨h1,h2,h3⟩
   ·rw[ht]at h1 h2 h3
    obtain⟨r1,r2,r3⟩:=ET n _ _ _ _ _ _ _ h1 h2 h3
    exact⟨r1,r2,λ a w hs=>c.W.block (r3 a w hs)⟩
   ·rw[ht]at h1 h2 h3
    obtain⟨r1,r2,r3⟩:=ET n _ _ _ _ _ _ _ h1 h2 h3
    exact⟨r1,r2,λ a w hs=>c.W.scope (r3 a w hs)⟩
   ·rw[ht]at h1 h2 h3
    obtain⟨r1,r2,r3⟩:=ET n _ _ _ _ _ _ _ h1 h2 h3
    exact⟨r1,r2,λ a w hs=>c.W.exit (r3 a w hs)⟩
   ·rw[ht]at h1 h2 h3
    exact⟨h1,h2,λ a w hs=>c.W.ret (QD a w (h3 a w hs) k)⟩
   ·split at ht
    ·rename_i v E' ho
     split at ht
     ·rename_i p hp
      have:=L8 hp;subst this
      rw[ht]at h1 h2 h3
      refine⟨h1,(A6.app h2).2,λ a w hs=>c.W.cond (AT ho (A6.app h2).1 a c.N hs.1 U) (h3 a w hs)⟩
     ·rw[ht]at h1 h2 h3;exact⟨h1,h2,h3⟩
    ·rw[ht]at h1 h2 h3;exact⟨h1,h2,h3⟩
   ·rw[ht]at h1 h2 h3;exact⟨h1,h2,h3⟩
  ·split at ht
   ·rw[ht]at h1 h2 h3
    obtain⟨r1,r2,r3⟩:=ET n _ _ _ _ _ _ _ h1 h2 h3
    exact⟨r1,r2,λ a w hs=>r3 a w hs⟩
   ·rw[ht]at h1 h2 h3
    obtain⟨r1,r2,r3⟩:=ET n _ _ _ _ _ _ _ h1 h2 h3
    exact⟨r1,r2,λ a w hs=>r3 a w hs⟩
   ·rw[ht]at h1 h2 h3
    obtain⟨r1,r2,r3⟩:=ET n _ _ _ _ _ _ _ h1 h2 h3
    exact⟨r1,r2,λ a w hs=>r3 a w hs⟩
   ·rw[ht]at h1 h2 h3;exact⟨h1,h2,h3⟩
  ·rename_i id
   split at ht
   ·rename_i id' k'
    split at ht
    ·rename_i hid
     have:=Nat.eq_of_beq_eq_true hid;subst this
     rw[ht]at h1 h2 h3
     obtain⟨r1,r2,r3⟩:=ET n _ _ _ _ _ _ _ h1 h2 h3
     refine⟨r1,r2,λ a w hs=>?_⟩
     show(if id=id then _ else _)
     rw[if_pos U];exact r3 a w hs
    ·rename_i hid
     have:id≠id':=λ e=>by subst e;rw[Nat.beq_refl]at hid;cases hid
     rw[ht]at h1 h2 h3
     obtain⟨r1,r2,r3⟩:=ET n _ _ _ _ _ _ _ h1 h2 h3
     refine⟨r1,r2,λ a w hs=>?_⟩
     show(if id=id' then _ else _)
     rw[if_neg this];exact r3 a w hs
   ·rw[ht]at h1 h2 h3
    obtain⟨r1,r2,r3⟩:=ET n _ _ _ _ _ _ _ h1 h2 h3
    exact⟨r1,r2,λ a w hs=>r3 a w hs⟩
   ·rw[ht]at h1 h2 h3
    obtain⟨r1,r2,r3⟩:=ET n _ _ _ _ _ _ _ h1 h2 h3
    exact⟨r1,r2,λ a w hs=>r3 a w hs⟩
   ·rw[ht]at h1 h2 h3
    obtain⟨r1,r2,r3⟩:=ET n _ _ _ _ _ _ _ h1 h2 h3
    exact⟨r1,r2,λ a w hs=>r3 a w hs⟩
   ·rw[ht]at h1 h2 h3;exact⟨h1,h2,h3⟩
  ·rename_i all l
   split at ht
   ·rw[ht]at h1 h2 h3
    obtain⟨r1,r2,r3⟩:=ET n _ _ _ _ _ _ _ h1 h2 h3
    exact⟨r1,r2,λ a w hs=>c.W.nil (r3 a w hs)⟩
   ·rename_i dst op ty ps af gd rest
    split at ht
    ·rename_i d
     split at ht
     ·rename_i W hW
      split at ht
      ·rename_i v p E' hv
       split at ht
       ·rename_i hd
        obtain⟨O',hi,hO'⟩:=X9 (W:=W) (K:=λ O'=>exec c.T c.N n k (.ops all rest) F H ((d,W,v)::L) O' (E'++E)) (ps:=p) (O:=O)
        rw[ht,hi]at h1 h2 h3
        obtain⟨r1,r2,r3⟩:=ET n _ _ _ _ _ _ _ h1 h2 h3
        obtain⟨hp,hO⟩:=hO' r1
        refine⟨hO,(A6.app r2).2,λ a w hs=>?_⟩
        obtain⟨hsl,M,hX⟩:=hs
        have hpv:PV c.P (· =w) L.d W.d ⟨some d,op,ty,ps,af,gd⟩ v.d:=Q4 c.hT hX.f hX.st BG hv (A6.app r2).1 hp
        exact c.W.one (RL.v (JS hW) hpv hd (λ a' hs'=>c.W.back (r3 a' w ⟨hs',M,hX⟩)) a hsl)
       ·rw[ht]at h1 h2 h3;exact⟨h1,h2,h3⟩
      ·rw[ht]at h1 h2 h3;exact⟨h1,h2,h3⟩
     ·rw[ht]at h1 h2 h3;exact⟨h1,h2,h3⟩
    ·split at ht
     ·split at ht
      ·rename_i tt x y
       split at ht
       ·rename_i H' E' hst
        rw[ht]at h1 h2 h3
        obtain⟨r1,r2,r3⟩:=ET n _ _ _ _ _ _ _ h1 h2 h3
        refine⟨r1,(A6.app r2).2,λ a w hs=>?_⟩
        obtain⟨hsl,M,hX⟩:=hs
        exact c.W.one (qD hst (A6.app r2).1 hX (λ a' w' hs'=>c.W.back (r3 a' w' hs')) a w hsl)
       ·rw[ht]at h1 h2 h3;exact⟨h1,h2,h3⟩
      ·rw[ht]at h1 h2 h3;exact⟨h1,h2,h3⟩
     ·rw[ht]at h1 h2 h3;exact⟨h1,h2,h3⟩
  ·rw[ht]at h1 h2 h3;exact⟨h1,h2,h3⟩
theorem CH{m:Md}{k':List Fr}{m':Md}{s':XS}{O':Prop}{E':List Ck}(h:run c.T c.N k m s=⟨k',m',s',O',E'⟩)(hE:A6 E')(hO:O')(hn:XG c B k' m' s'):XG c B k m s:=by
 unfold run at h
 split at h
 rename_i F H L
 have key: ∀F' H' L',F'=F->H'=H->L'=L->exec c.T c.N 10000 k m F' H' L' ((0:Int)=0) []=⟨k',m',s',O',E'⟩->XG c B k m ⟨F,H,L⟩:=by
  rintro F' H' L' rfl rfl rfl h
  have:=ET (c:=c) (B:=B) 10000 k m F' H' L' ((0:Int)=0) []
  rw[h]at this
  exact(this hO hE hn).2.2
 split at h
 ·rename_i F' hF
  split at h
  ·rename_i H' hH
   split at h
   ·rename_i L' hL
    exact key F' H' L' (X8 hF) (X8 hH) (dH hL) h
   ·exact key F H L U U U h
  ·exact key F H L U U U h
 ·exact key F H L U U U h
end
end Go.Eng
namespace Go.Eng
open Go.RowKit
abbrev I(n:Int):XV:=.v (.int .i64 n)
abbrev Z(k:Nat)(v:XV):Nat×Gd×XV:=(k,.t,v)
def K9:Nat->List XV->XE
 |_,[]=>[]
 |k,v::vs=>(k,.t,v)::K9 (k+1) vs
theorem O5: ∀(vs:List XV) (k:Nat),(K9 k vs).d=JI k (vs.map XV.d)
 |[],_=>rfl
 |v::vs,k=>by show(k,true,v.d)::XE.d (K9 (k+1) vs)=_;rw[O5 vs];rfl
def FK:List Nat->XE->XE
 |[],_=>[]
 |k::ks,L=>match B6 L k with
  |some x=>(k,x)::FK ks L
  |none=>FK ks L
theorem TF: ∀(ks:List Nat) (L:XE) (t:Nat) (g:Gd) (v:XV),B6 (FK ks L) t=some (g,v)->B6 L t=some (g,v)
 |[],_,_,_,_,h=>by simp[FK,B6]at h
 |k::ks,L,t,g,v,h=>by
  unfold FK at h
  split at h
  ·rename_i x hx
   obtain⟨g',v'⟩:=x
   unfold B6 at h
   split at h
   ·rename_i e
    cases h;have:=Nat.eq_of_beq_eq_true e;subst this;exact hx
   ·exact TF ks L t g v h
  ·exact TF ks L t g v h
theorem dJ{a:Act}{N:Nat}{L L':XE}(hs:AF a N L.d)(h: ∀t g v,B6 L' t=some (g,v)->B6 L t=some (g,v)):AF a N L'.d:=
 ⟨hs.size,hs.CD,λ t g v ht=>by
  obtain⟨g',v',h1,rfl,rfl⟩:=MH ht
  exact hs.val t _ _ (FT (h t g' v' h1))⟩
def IU:List (Nat×Kn)->List (Nat×Kn)->List (Nat×Kn)
 |[],_=>[]
 |(k,x)::F',F=>match IQ F k with
  |some y=>(k,y)::IU F' F
  |none=>IU F' F
theorem XA{M:Mem}{F:List (Nat×Kn)}(hF:B7 M F): ∀F',B7 M (IU F' F)
 |[]=>λ x hx=>by cases hx
 |(k,x)::F'=>by
  unfold IU
  split
  ·rename_i y hy
   intro z hz
   rcases List.mem_cons.1 hz with rfl|hz
   ·exact hF.get hy
   ·exact XA hF F' z hz
  ·exact XA hF F'
def JT:List (Nat×HX)->Nat->Option (HX×List (Nat×HX))
 |[],_=>none
 |(t,d)::H,k=>match Nat.beq t k with
  |true=>some (d,H)
  |false=>match JT H k with
   |some (x,H')=>some (x,(t,d)::H')
   |none=>none
theorem TG: ∀ {H:List (Nat×HX)} {k:Nat} {x:HX} {H':List (Nat×HX)},JT H k=some (x,H')->(x.d::HD H').Perm (HD H)
 |[],_,_,_,h=>by cases h
 |(t,d)::H,k,x,H',h=>by
  unfold JT at h
  split at h
  ·simp only[Option.some.injEq,Prod.mk.injEq]at h;obtain⟨rfl,rfl⟩:=h;exact .refl _
  ·split at h
   ·rename_i x2 H2 h2
    simp only[Option.some.injEq,Prod.mk.injEq]at h;obtain⟨rfl,rfl⟩:=h
    exact(List.Perm.swap _ _ _).trans ((TG h2).cons d.d)
   ·cases h
def IV:List (Nat×HX)->List (Nat×HX)->List (Nat×HX)
 |[],_=>[]
 |(k,_)::H',H=>match JT H k with
  |some (y,H2)=>(k,y)::IV H' H2
  |none=>IV H' H
theorem XB: ∀(H' H:List (Nat×HX)),∃R,(HD (IV H' H)++R).Perm (HD H)
 |[],H=>⟨HD H,.refl _⟩
 |(k,d)::H',H=>by
  unfold IV
  split
  ·rename_i y H2 h2
   obtain⟨R,hR⟩:=XB H' H2
   exact⟨R,(hR.cons y.d).trans (TG h2)⟩
  ·exact XB H' H
def XS.sub (s' s:XS):Prop:=(∀t g v,B6 s'.L t=some (g,v)->B6 s.L t=some (g,v))/\(∀M,B7 M s.F->B7 M s'.F)/\ ∃R,(HD s'.H++R).Perm (HD s.H)
def keys:XE->List Nat
 |[]=>[]
 |(k,_)::L=>k::keys L
theorem XS.O6 {s s':XS}(h:(⟨IU s'.F s.F,IV s'.H s.H,FK (keys s'.L) s.L⟩:XS)=s'):s'.sub s:=by
 refine⟨λ t g v hv=>?_,λ M hF=>?_,?_⟩
 ·rw[<-h]at hv;exact TF _ _ _ _ _ hv
 ·have:=XA hF s'.F;rw[<-h];exact this
 ·have:=XB s'.H s.H;rw[<-h];exact this
theorem FJ.sub {c:Cx}{s s':XS}{a:Act}{w:World}(h:FJ c s a w)(hs:s'.sub s):FJ c s' a w:=by
 obtain⟨h1,M,h2,h3,h4⟩:=h
 obtain⟨k1,k2,R,k3⟩:=hs
 refine⟨dJ h1 k1,M,?_,k2 M h3,h4⟩
 have hp:((HD s'.H++c.Hr)++R).Perm (HD s.H++c.Hr):=by
  refine List.Perm.trans ?_ (k3.append_right c.Hr)
  rw[List.append_assoc,List.append_assoc]
  exact(List.perm_append_comm).append_left _
 exact(h2.perm hp).drop _ (List.sublist_append_left _ _)
section
variable {c:Cx} {B:Exit->Act->World->Prop} {k k':List Fr} {m:Md} {s s':XS} {O:Prop} {E:List Ck}
theorem AB{b:Bool}{x y:Code}(h:run c.T c.N k m s=⟨k',.br b x y,s',O,E⟩)(hE:A6 E)(hO:O)(ht:b=true->XG c B k' (.code x) s')(hf:b=false->XG c B k' (.code y) s'):XG c B k m s:=by
 refine CH h hE hO λ a w hs=>?_
 cases b
 ·exact hf U a w hs
 ·exact ht U a w hs
def LJ{σ:Type}(Sf:σ->XS)(I:σ->Prop)(μ:σ->Nat)(g:σ):XS->Prop:=λ t=> ∃g',t=Sf g'/\I g'/\μ g'<μ g
theorem EA{σ:Type}{x:Code}(Sf:σ->XS)(I:σ->Prop)(μ:σ->Nat)(g0:σ)(h:run c.T c.N k m s=⟨k',.code (.loop x),s',O,E⟩)(hE:A6 E)(hO:O)
  (h0:(⟨IU (Sf g0).F s'.F,IV (Sf g0).H s'.H,FK (keys (Sf g0).L) s'.L⟩:XS)=Sf g0) (hI:I g0)
  (hr: ∀g,I g->XG c B (.loop (LJ Sf I μ g)::k') (.code x) (Sf g)):XG c B k m s:=by
 refine CH h hE hO λ a w hs=>?_
 refine c.W.loop (λ g a w=>I g/\FJ c (Sf g) a w) μ g0 ⟨hI,hs.sub (XS.O6 h0)⟩ λ g a w ⟨hg,hs⟩=>c.W.mono (hr g hg a w hs) λ e a w q=>?_
 cases e with
 |normal=>obtain⟨t,⟨g',rfl,h1,h2⟩,h3⟩:=q;exact⟨g',⟨h1,h3⟩,h2⟩
 |_=>exact q
theorem DO{σ:Type}{Sf:σ->XS}{I:σ->Prop}{μ:σ->Nat}{g:σ}(g':σ)(h:run c.T c.N k m s=⟨.loop (LJ Sf I μ g)::k',.next,s',O,E⟩)(hE:A6 E)(hO:O)
  (h0:(⟨IU (Sf g').F s'.F,IV (Sf g').H s'.H,FK (keys (Sf g').L) s'.L⟩:XS)=Sf g') (hI:I g') (hm:μ g'<μ g):XG c B k m s:=
 CH h hE hO λ a w hs=>⟨_,⟨g',rfl,hI,hm⟩,hs.sub (XS.O6 h0)⟩
def MJ:Value->XV
 | .agg ⟨cs⟩=>.ag (HF cs)
 |x=>.v x
def TH:List Value->Option (List XV)
 |[]=>some []
 |x::l=>match TH l with
  |some r=>some (MJ x::r)
  |none=>none
def vx:Value->Option XV
 | .tuple ⟨l⟩=>match TH l with
  |some r=>some (.tu r)
  |none=>none
 |x=>some (MJ x)
theorem dK: ∀l:List Value,(HF l).map XV.d0=l
 |[]=>rfl
 |x::l=>by simp[HF,dK l,XV.d0]
theorem dL(x:Value):(MJ x).d1=x:=by
 unfold MJ
 split
 ·rename_i cs;simp[XV.d1,dK]
 ·rfl
theorem qE(x:Value):(MJ x).d=(MJ x).d1:=by
 unfold MJ
 split<;>rfl
theorem dM: ∀ {l:List Value} {r:List XV},TH l=some r->r.map XV.d1=l
 |[],r,h=>by cases h;rfl
 |x::l,r,h=>by
  unfold TH at h
  split at h
  ·rename_i r' hr;cases h;simp[dL,dM hr]
  ·cases h
theorem XC{x:Value}{v:XV}(h:vx x=some v):v.d=x:=by
 unfold vx at h
 split at h
 ·split at h
  ·rename_i r hr;cases h;simp[XV.d,dM hr]
  ·cases h
 ·cases h;rw[qE,dL]
def HG(L:XE)(W:Gd):List Operand->Option (List XV×List Ck)
 |[]=>some ([],[])
 |x::xs=>match BI L W x with
  |some (v,E)=>match HG L W xs with
   |some (vs,E')=>some (v::vs,E++E')
   |none=>none
  |none=>none
theorem KA{L:XE}{W:Gd}: ∀ {xs:List Operand} {vs:List XV} {E:List Ck},HG L W xs=some (vs,E)->A6 E->DE L.d W.d xs (vs.map XV.d)
 |[],vs,E,h,_=>by simp only[HG,Option.some.injEq,Prod.mk.injEq]at h;obtain⟨rfl,rfl⟩:=h;exact .nil
 |x::xs,vs,E,h,hE=>by
  unfold HG at h
  split at h
  ·rename_i v E1 h1
   split at h
   ·rename_i vs' E2 h2
    simp only[Option.some.injEq,Prod.mk.injEq]at h;obtain⟨rfl,rfl⟩:=h
    exact .cons (AT h1 hE.app.1) (KA h2 hE.app.2)
   ·cases h
  ·cases h
abbrev CT(P:Program)(f:FuncId):Prop:= ∀args w,(callFunc f args).run P w= .ok (.enter f args) w
theorem BE{d:Nat}{f:FuncId}{xs:List Operand}{tys:Array TypeId}{ty:TypeId}{ps:String}{af:Array Edge}{gd:Option (Nat×Bool)}{all:Array Oper}{rest:List Oper}{W:Gd}{vs:List XV}{E2:List Ck}{u:Value}{v:XV}
  (h:run c.T c.N k m s=⟨k',.ops all (⟨some d,.call ⟨.value (.func f),⟨xs⟩,tys⟩,ty,ps,af,gd⟩::rest),s',O,E⟩) (hE:A6 E) (hO:O) (ct:CT c.P f) (hg:(GY all s'.L gd,Nat.blt d c.N)=(some W,true)) (hx:HG s'.L W xs=some (vs,E2)) (hE2:A6 E2)
  (hc:W.d=true-> ∀w M,D4 c s'.F s'.H w M->Calls c.P f (vs.map XV.d).toArray w (λ e w'=>e= .returned u/\Ext w w')) (hv:vx u=some v) (hn:XG c B k' (.ops all rest) ⟨s'.F,s'.H,(d,W,v)::s'.L⟩):XG c B k m s:=by
 refine CH h hE hO λ a w hs=>?_
 obtain⟨h1,M,h2⟩:=hs
 simp only[Prod.mk.injEq]at hg
 have e:(⟨xs⟩:Array Operand)=xs.toArray:=rfl
 rw[e]
 refine c.W.one (RL.DZ h2.st (JS hg.1) ct (KA hx hE2) (λ hW=>hc hW w M h2) hg.2 (λ w' hS'=>?_) a h1)
 intro a' hs'
 rw[<-XC hv]at hs'
 exact c.W.back (hn a' w' ⟨hs',M,hS',h2.f,h2.le⟩)
end
end Go.Eng
namespace Go.Eng
open Go.RowKit
theorem B3{P:Program}{N:Nat}{w0 w:World}{M0 M:Mem}{Hr:List HO}{T:TT}(hT:DI P T){f:FuncId}{fn:Func}{x:Code}{R:Ending->World->Prop}(hf:P.funcs[f]? =some fn)(hb:fn.body=some x)(hn:fn.ntmps=N)
  (F:List (Nat×Kn)) (H:List (Nat×HX)) (vs:List XV) (hl:Nat.ble vs.length N=true) (hS:St w0 M0 w M (HD H++Hr)) (hF:B7 M F)
  (h: ∀B,Ends P fn R B->XG ⟨P,N,w0,M0,M,Hr,T,hT,.wide P⟩ B [] (.code x) ⟨F,H,K9 0 vs⟩) {av:List Value} (ha:vs.map XV.d=av):Calls P f av.toArray w R:=by
 subst ha
 refine CW.C4 hf hb hn (by rw[List.length_map];exact Nat.le_of_ble_eq_true hl) λ Q hQ a hs=>?_
 have:=h Q hQ a w ⟨by rw[<-O5]at hs;exact hs,M,hS,hF,Mem.le.refl _⟩
 exact this
end Go.Eng
