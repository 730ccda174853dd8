/- General words of this session: what the walks of package dict want besides. -/
import Derived.Test.YtbgihgkobojfaaaWMore
import Derived.Test.YtbgihgkobojfaaaHBytes
import Derived.Lib.SliceRun
