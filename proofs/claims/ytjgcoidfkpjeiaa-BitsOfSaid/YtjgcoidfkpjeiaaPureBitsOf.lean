/- The plain statement of BitsOf over the printed functions stands in the text that is imported. -/
import Derived.Test.YtjgcoidfkpjeiaaLawsBitsOf
